/-
  From a text to paths: flows that are read from a text, asked for, and settled, are gone: each flow's packet arrives, by way of all that its line names.
  The row's listed variables hold what the program's text lays (the tie is given).
-/
import Derived.Test.YtampcbncgofkoaaGreatDoorCards
import Derived.Test.YtampcbncgofkoaaGreatDoorTie
import Derived.Deep.DeepHandedRow
import Derived.Deep.DeepWitnessRowRef
import Derived.Lib.LaidTab
import Derived.Test.YtampcbncgofkoaaGreatDoorPk44
import Derived.Test.YtampcbncgofkoaaGreatDoorPk14
set_option linter.unusedSimpArgs false
set_option linter.unusedVariables false
set_option maxRecDepth 100000
set_option maxHeartbeats 16000000
namespace Go.Proofs.YtampcbncgofkoaaGreatDoor
open Go.ChangeShapes Go.WideShapes Go.ChangeAt Go.RowKit Go.St
open Go.ChangeMaps (open_string)
noncomputable def low:Nat:=(World.holding Tryz.prog default ⟨#[],#[],[]⟩).heap.size
noncomputable def C2k (os:Os):World:=
 let w0:=World.holding Tryz.prog os ⟨#[.cells #[.string ⟨#[118,97,108,117,101,32,111,117,116,32,111,102,32,114,97,110,103,101]⟩] 192,.cells #[.string ⟨#[105,110,118,97,108,105,100,32,115,121,110,116,97,120]⟩] 192],#[],[]⟩
 let put (h:Array Obj) (g:Nat) (cs:Array Value):Array Obj:=h.modify g fun
  |.cells _ t frozen=>.cells cs t frozen
  |o=>o
 let h1:=put w0.heap 2 (Lib.pow10Tab.map fun z=>Value.int .u64 z).toArray
 let h2:=put h1 3 (([0,1,28,2,29,14,24,3,30,22,20,15,25,17,4,8,31,27,13,23,21,19,16,7,26,12,18,6,11,5,10,9]:List Int).map fun z=>Value.int .u8 z).toArray
 let h3:=put h2 4 (([0,1,56,2,57,49,28,3,61,58,42,50,38,29,17,4,62,47,59,36,45,43,51,22,53,39,33,30,24,18,12,5,63,55,48,27,60,41,37,16,46,35,44,21,52,32,23,11,54,26,40,15,34,20,31,10,25,14,19,9,13,8,7,6]:List Int).map fun z=>Value.int .u8 z).toArray
 let h4:=put h3 1 #[.iface 190 (.pointer (some ⟨low,0,none⟩))]
 let h5:=put h4 0 #[.iface 190 (.pointer (some ⟨low+1,0,none⟩))]
 {w0 with heap:=h5}
theorem C37 (os:Os) (args:Array Value):laidMet Tryz.prog Rows.topTextRow.laid ((C2k os).forCall (fun _ _=>0) ⟨#[],args,[]⟩).memory:=
 laidMet_of_run' 8 (by kernel_rfl) (by kernel_rfl)
theorem C3b:ownKnob Tryz.prog.godebug=none:=by kernel_rfl
theorem C2l (os : Os) (started : os.Started) (H : Type) (enc : TypeId × Value → H) (F : Stop.Interp) :
  ReturnsInHanded {} Tryz.checked os 3 .any ((OpenSpec.ofChange Rows.topTextSpec).preRow enc Tryz.prog Tryz.f3 Rows.topTextRow.domain false Rows.topTextRow.laid) (((OpenSpec.ofChange Rows.topTextSpec).at F).post enc Tryz.prog Tryz.f3 false true false false) := by
 have hx : ∃ places, DataW.whole enc Tryz.prog ((C2k os).forCall (fun _ _ => 0) ⟨#[], #[.agg #[.int .i64 0, .slice none 0 0], .string ⟨#[]⟩], []⟩).memory Tryz.f3.params.toList Rows.topTextSpec.vars false #[Value.agg #[.int .i64 0, .slice none 0 0], .string ⟨#[]⟩].toList 8 = some ([.agg [.lit (.int .i64 0), .nil], .lit (.string [])], [], places) := ⟨[], by kernel_rfl⟩
 obtain ⟨places, hx⟩ := hx
 refine returnsInHanded_of_row (C := Tryz.checked) (s := OpenSpec.ofChange Rows.topTextSpec) C3b started (by kernel_rfl) Tryz.func3
  (witness_row_at (enc := enc) (C := Tryz.checked) false (C2k os) #[.agg #[.int .i64 0, .slice none 0 0], .string ⟨#[]⟩] rfl (by kernel_rfl) (by kernel_rfl) (by kernel_rfl)
   (OpenSpec.preRow_of_cond 8 hx (by kernel_rfl) (fun k hk => by cases hk) (by kernel_rfl) (C37 os _))) ?_
 intro W base args ds gs before hval0 hW _ _ hsz0 hL _ _
 have hsz : (DataW.weightsEach Tryz.prog (Tryz.f3.params.toList ++ Rows.topTextSpec.plain.varTypes Tryz.prog) (ds ++ gs)).all (· ≤ reachBytes) = true := hsz0
 clear hsz0
 have hval : ∀ (j : Nat) t v, Tryz.f3.params[j]? = some t → args[j]? = some v → Value.okWide Tryz.prog W .any base t v := hval0
 have hW' := hW
 obtain ⟨p, q, hA0, hV, rfl, hfz, hnd⟩ := hW
 have hA : DataW.TrodAll enc Tryz.prog W 0 (fun _ => true) true Tryz.f3.params.toList args.toList ds p := hA0
 rw [Tryz.params3] at hA hval hsz
 obtain ⟨v0, vs0, d0, ds0, p0, q0, hargs, rfl, rfl, h0, r0⟩ := trodAll_cons hA
 obtain ⟨v1, vs1, d1, ds1, p1, q1, rfl, rfl, rfl, h1, r1⟩ := trodAll_cons r0
 obtain ⟨rfl, rfl, rfl⟩ := trodAll_nil r1
 obtain rfl : args = #[v0, v1] := by cases args; simp_all
 obtain ⟨rfl, rfl⟩ := trodVars_none hV
 obtain ⟨x0, cs0, rfl, k0⟩ := A2q A4j Tryz.underlying24 (hval 0 _ _ rfl rfl) h0
 obtain ⟨s, rfl, rfl, rfl, hs⟩ := open_string Tryz.underlying9 (hval 1 _ v1 rfl rfl) h1
 have z0 := sized_string hsz (j := 1) (t := 9) rfl rfl
 clear hA0 hval0
 refine (C30 W x0 cs0 _ k0 s (by unfold reachBytes at z0; have e : s.size = s.data.toList.length := by { rw [Array.length_toList]; rfl }; omega)).mono fun e W' ⟨he, bel⟩ => ?_
 subst he
 exact ⟨_, rfl, A13 (by kernel_rfl) rfl hW' rfl rfl Tryz.underlying4 (by rw [Tryz.params3]; intro t ht; simp at ht; rcases ht with rfl | rfl <;> exact ⟨by kernel_rfl, of_decide_eq_true (by kernel_rfl)⟩) bel⟩
theorem topText_said:Rows.TopTextSaid:=
 OpenClaim.holds_of_cond 3 Tryz.f3 rfl rfl rfl rfl rfl rfl rfl ⟨rfl,rfl,rfl,rfl,rfl⟩ rfl rfl rfl rfl rfl (by kernel_rfl) Tryz.func3 (by kernel_rfl)
  (of_decide_eq_true (by kernel_rfl)) (by unfold Func.isWrapper;first|(rw [if_pos (by decide+kernel)];kernel_rfl)|(rw [if_neg (by decide+kernel)];exact ⟨rfl,rfl⟩))
  (fun os started H enc _ F=>by rw [OpenClaim.pre_eq_preRow];exact C2l os started H enc F)
theorem C2p (f:FuncId) (fn:Func) (hf:Tryz.pinned.checked.prog.funcNamed "stampways/stamptop.TopText"=some f) (hfn:Tryz.pinned.checked.prog.funcs[f]? =some fn):
  Tryz.prog.looks []=Tryz.pinned.checked.prog.looks []∧∀ (j:Nat) t,fn.params[j]? =some t→Tryz.pinned.checked.prog.wantsStandIn t=false:=by
 obtain rfl:f=3:=Option.some.inj ((show Tryz.prog.funcNamed "stampways/stamptop.TopText"=some 3 by kernel_rfl).symm.trans hf)|>.symm
 obtain rfl:fn=Tryz.f3:=(Option.some.inj (Tryz.func3.symm.trans hfn)).symm
 refine ⟨rfl,fun j t ht=>?_⟩
 rw [Tryz.params3] at ht
 have hm:=Array.mem_of_getElem? ht
 simp at hm
 rcases hm with rfl|rfl
 ·exact (show Tryz.prog.wantsStandIn 24=false by kernel_rfl)
 ·exact (show Tryz.prog.wantsStandIn 9=false by kernel_rfl)
theorem topText_card:Rows.TopTextCardSaid:=
 Claim7.holds_tied_plain_at .later [] _ _ _ _ topText_said (fun _ h=>by cases h) (by kernel_rfl) (fun _ h=>by cases h) topText_row_tie rfl ⟨rfl,rfl⟩ (by kernel_rfl) rfl
  (fun f fn hf hfn=>⟨by kernel_rfl,(C2p f fn hf hfn).2⟩) (by kernel_rfl)
end Go.Proofs.YtampcbncgofkoaaGreatDoor
