/-
  As long as a change is not done another one is refused; then it is not.
  No condition.
-/
import Derived.Test.YtampcbncgofkoaaQ3
import Derived.Test.YtampcbncgofkoaaPk10
set_option linter.unusedSimpArgs false
set_option linter.unusedVariables false
set_option maxRecDepth 100000
set_option maxHeartbeats 16000000
namespace Go.Proofs.Ytampcbncgofkoaa
open Go.ChangeShapes Go.WideShapes Go.ChangeAt Go.RowKit Go.St
theorem C1z (os:Os) (started:os.Started) (H:Type) (enc:TypeId × Value→H):
  ReturnsInHanded {} Try.checked os 5 .any (Rows.topBusySpec.pre6 enc Try.prog Try.f5 Rows.topBusyRow.domain false) (Rows.topBusySpec.post enc Try.prog Try.f5 false true false false):=by
 refine returnsInHanded_of_change (C:=Try.checked) A24 started (by kernel_rfl) Try.func5
  (ChangeSpec.witness6 (enc:=enc) (C:=Try.checked) false ⟨#[],#[.agg #[.int .i64 0,.slice none 0 0],.int .i64 0,.int .i64 0,.int .i64 0],[]⟩ 8 (by kernel_rfl) (by kernel_rfl) (by kernel_rfl) (by kernel_rfl)) ?_
 intro W base args ds gs before hval0 hW hcnd _
 have hval:∀ (j:Nat) t v,Try.f5.params[j]? =some t→args[j]? =some v→Value.okWide Try.prog W .any base t v:=hval0
 have hW':=hW
 obtain ⟨p,q,hA0,hV,rfl,hfz,hnd⟩:=hW
 have hA:DataW.TrodAll enc Try.prog W 0 (fun _=>true) true Try.f5.params.toList args.toList ds p:=hA0
 rw [Try.params5] at hA hval
 obtain ⟨v0,vs0,d0,ds0,p0,q0,hargs,rfl,rfl,h0,r0⟩:=trodAll_cons hA
 obtain ⟨v1,vs1,d1,ds1,p1,q1,rfl,rfl,rfl,h1,r1⟩:=trodAll_cons r0
 obtain ⟨v2,vs2,d2,ds2,p2,q2,rfl,rfl,rfl,h2,r2⟩:=trodAll_cons r1
 obtain ⟨v3,vs3,d3,ds3,p3,q3,rfl,rfl,rfl,h3,r3⟩:=trodAll_cons r2
 obtain ⟨rfl,rfl,rfl⟩:=trodAll_nil r3
 obtain rfl:args=#[v0,v1,v2,v3]:=by cases args;simp_all
 clear hA0 hval0
 obtain ⟨x0,cs0,rfl,i0⟩:=A2q A4j Try.underlying24 (hval 0 _ _ rfl rfl) h0
 obtain ⟨n1,rfl,i1⟩:=B79 Try.underlying3 (hval 1 _ _ rfl rfl) h1
 obtain ⟨n2,rfl,i2⟩:=B79 Try.underlying3 (hval 2 _ _ rfl rfl) h2
 obtain ⟨n3,rfl,i3⟩:=B79 Try.underlying3 (hval 3 _ _ rfl rfl) h3
 refine (C26 W x0 cs0 _ i0 n1 i1 n2 i2 n3 i3).mono fun e W' ⟨he,bel⟩=>?_
 subst he
 exact ⟨_,rfl,A13 A0w rfl hW' rfl rfl Try.underlying4 (by rw [Try.params5];intro t ht;simp at ht;rcases ht with rfl|rfl|rfl|rfl<;>exact ⟨by kernel_rfl,of_decide_eq_true (by kernel_rfl)⟩) bel⟩
theorem topBusy_said:Rows.TopBusySaid:=
 OpenClaim.holds_of_wide 5 Try.f5 rfl rfl rfl rfl rfl rfl rfl ⟨rfl,rfl,rfl,rfl,rfl⟩ rfl rfl rfl rfl rfl (by kernel_rfl) Try.func5 (by kernel_rfl)
  (of_decide_eq_true (by kernel_rfl)) (by unfold Func.isWrapper;first|(rw [if_pos (by decide+kernel)];kernel_rfl)|(rw [if_neg (by decide+kernel)];exact ⟨rfl,rfl⟩))
  (fun os started H enc _=>C1z os started H enc)
end Go.Proofs.Ytampcbncgofkoaa
