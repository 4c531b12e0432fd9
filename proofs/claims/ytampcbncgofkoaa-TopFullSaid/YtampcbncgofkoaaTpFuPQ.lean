/-
  In a line of two switches so many changes may follow each other as tables hold both versions of.
  No condition.
-/
import Derived.Test.YtampcbncgofkoaaQ7
import Derived.Test.YtampcbncgofkoaaQ5
set_option linter.unusedSimpArgs false
set_option linter.unusedVariables false
set_option maxRecDepth 100000
set_option maxHeartbeats 16000000
namespace Go.Proofs.Ytampcbncgofkoaa
open Go.ChangeShapes Go.WideShapes Go.ChangeAt Go.RowKit Go.St
theorem C0b (os:Os) (started:os.Started) (H:Type) (enc:TypeId × Value→H):
  ReturnsInHanded {} Try.checked os 4 .any (Rows.topFullSpec.pre6 enc Try.prog Try.f4 Rows.topFullRow.domain false) (Rows.topFullSpec.post enc Try.prog Try.f4 false true false false):=by
 refine returnsInHanded_of_change (C:=Try.checked) A24 started (by kernel_rfl) Try.func4
  (ChangeSpec.witness6 (enc:=enc) (C:=Try.checked) false ⟨#[],#[.int .i64 0,.int .i64 0],[]⟩ 8 (by kernel_rfl) (by kernel_rfl) (by kernel_rfl) (by kernel_rfl)) ?_
 intro W base args ds gs before hval0 hW hcnd _
 have hval:∀ (j:Nat) t v,Try.f4.params[j]? =some t→args[j]? =some v→Value.okWide Try.prog W .any base t v:=hval0
 have hW':=hW
 obtain ⟨p,q,hA0,hV,rfl,hfz,hnd⟩:=hW
 have hA:DataW.TrodAll enc Try.prog W 0 (fun _=>true) true Try.f4.params.toList args.toList ds p:=hA0
 rw [Try.params4] at hA hval
 obtain ⟨v0,vs0,d0,ds0,p0,q0,hargs,rfl,rfl,h0,r0⟩:=trodAll_cons hA
 obtain ⟨v1,vs1,d1,ds1,p1,q1,rfl,rfl,rfl,h1,r1⟩:=trodAll_cons r0
 obtain ⟨rfl,rfl,rfl⟩:=trodAll_nil r1
 obtain rfl:args=#[v0,v1]:=by cases args;simp_all
 clear hA0 hval0
 obtain ⟨n0,rfl,i0⟩:=B79 Try.underlying3 (hval 0 _ _ rfl rfl) h0
 obtain ⟨n1,rfl,i1⟩:=B79 Try.underlying3 (hval 1 _ _ rfl rfl) h1
 refine (C0o W n0 i0 n1 i1).mono fun e W' ⟨he,bel⟩=>?_
 subst he
 exact ⟨_,rfl,A13 A0w rfl hW' rfl rfl Try.underlying4 (by rw [Try.params4];intro t ht;simp at ht;rcases ht with rfl|rfl<;>exact ⟨by kernel_rfl,of_decide_eq_true (by kernel_rfl)⟩) bel⟩
theorem topFull_said:Rows.TopFullSaid:=
 OpenClaim.holds_of_wide 4 Try.f4 rfl rfl rfl rfl rfl rfl rfl ⟨rfl,rfl,rfl,rfl,rfl⟩ rfl rfl rfl rfl rfl (by kernel_rfl) Try.func4 (by kernel_rfl)
  (of_decide_eq_true (by kernel_rfl)) (by unfold Func.isWrapper;first|(rw [if_pos (by decide+kernel)];kernel_rfl)|(rw [if_neg (by decide+kernel)];exact ⟨rfl,rfl⟩))
  (fun os started H enc _=>C0b os started H enc)
end Go.Proofs.Ytampcbncgofkoaa
