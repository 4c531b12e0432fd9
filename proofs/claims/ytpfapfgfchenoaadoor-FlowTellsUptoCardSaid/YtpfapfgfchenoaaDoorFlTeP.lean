/-
  What is read, what is wrong, and what is written are told, where what is read is of bulk at most 1048576.
  The row's listed variables hold what the program's text lays (the tie is given).
-/
import Derived.Test.YtpfapfgfchenoaaDoorFlTe
import Derived.Test.YtpfapfgfchenoaaDoorCards
import Derived.Test.YtpfapfgfchenoaaDoorTie
import Derived.Test.YtpfapfgfchenoaaDoorFrame
import Derived.Test.YtpfapfgfchenoaaDoorBulk
import Derived.WalkKit
import Derived.ProofKit
import Derived.OpenShut
import Derived.Deep.DeepHandedRow
import Derived.Deep.DeepWitnessRowRef
import Derived.Lib.LaidTab
set_option linter.unusedVariables false
namespace Go.St
open Go.RowKit Go.Deep Go.ChangeShapes Go.WideShapes
/-- what a flow weighs: its two lists -/
def flowBulk (f : Flow) : Nat := f.via.length + f.no.length
theorem ones_sumF (q : List Int) : (q.map fun _ => 1).sum = q.length := by
  induction q with
  | nil => rfl
  | cons x l ih => simp only [List.map_cons, List.sum_cons, ih, List.length_cons]; omega
theorem flow_mem {l : List Flow} {f : Flow} (h : f ∈ l) : f.via.length + f.no.length ≤ (l.map flowBulk).sum := by
  induction l with
  | nil => cases h
  | cons g l ih =>
    rw [List.map_cons, List.sum_cons]
    rcases List.mem_cons.1 h with rfl | h
    · unfold flowBulk; omega
    · have := ih h; omega
end Go.St
namespace Go.Proofs.YtpfapfgfchenoaaDoor
open Go.ChangeShapes Go.WideShapes Go.ChangeAt Go.RowKit Go.St
open Go.ChangeMaps (open_string)

theorem opens_flowB {P : Program} {t i fs : TypeId} {f0 f1 f2 f3 : Field} (ht : P.underlying t = some (.struct #[f0, f1, f2, f3])) (hc : P.cellsOf t = 4) (hi : Opens P i intS) (hl : OpensB P fs (sliceS intS) (fun xs => (xs.map fun _ => 1).sum + 1))
    (t0 : f0.type = i ∧ f0.offset = 0) (t1 : f1.type = i ∧ f1.offset = 1) (t2 : f2.type = fs ∧ f2.offset = 2) (t3 : f3.type = fs ∧ f3.offset = 3) : OpensB P t flowS flowBulk where
  size := by rw [hc]; rfl
  pos := by decide
  op h := by
    obtain ⟨xs, n, _, rfl, hlen', hlen, hf⟩ := DataW.trod_struct ht h
    rename_i cs _
    rw [hc] at hlen'
    match cs, hlen', xs, hlen with
    | [v0, v1, v2, v3], _, [x0, x1, x2, x3], _ =>
      have h0 := hf 0 f0 rfl
      have h1 := hf 1 f1 rfl
      have h2 := hf 2 f2 rfl
      have h3 := hf 3 f3 rfl
      rw [t0.1, t0.2, hi.size] at h0
      rw [t1.1, t1.2, hi.size] at h1
      rw [t2.1, t2.2, hl.size] at h2
      rw [t3.1, t3.2, hl.size] at h3
      obtain ⟨a, ha, ia⟩ := hi.op h0
      obtain ⟨b, hb, ib⟩ := hi.op h1
      obtain ⟨rr, ⟨ra, rc, hr1, hr2⟩, hr3⟩ := hl.op h2
      obtain ⟨ss, ⟨sa, sc, hs1, hs2⟩, hs3⟩ := hl.op h3
      simp [intS] at ha hb
      simp [sliceS] at hr1 hs1
      subst ha; subst hb; subst hr1; subst hs1
      refine ⟨⟨a, b, rr, ss⟩, ⟨ra, rc, sa, sc, rfl, ia, ib, hr2, hs2⟩, ?_⟩
      rw [ones_sumF] at hr3 hs3
      simp only [flowBulk, List.map_cons, List.map_nil, Rows.uptoBulk, Rows.uptoBulkAll] at *
      omega
theorem o_intB : Opens Tryd.prog 3 intS := opens_int Tryd.underlying3 (by kernel_rfl)
theorem b_ints : OpensB Tryd.prog 38 (sliceS intS) (fun xs => (xs.map fun _ => 1).sum + 1) := o_intB.bulk.slice Tryd.underlying38 (by kernel_rfl)
theorem b_flow : OpensB Tryd.prog 40 flowS flowBulk := opens_flowB Tryd.underlying40 (by kernel_rfl) o_intB b_ints ⟨rfl, rfl⟩ ⟨rfl, rfl⟩ ⟨rfl, rfl⟩ ⟨rfl, rfl⟩
theorem b_flows : OpensB Tryd.prog 22 (sliceS flowS) (fun xs => (xs.map flowBulk).sum + 1) := b_flow.slice Tryd.underlying22 (by kernel_rfl)

theorem pow_named : Tryd.prog.globalNamed "internal/strconv.uint64pow10" = some 0 := by kernel_rfl
theorem pow_type : (Tryd.prog.globals[0]?).map (·.type) = some 94 := by kernel_rfl
theorem pow_cells : Tryd.prog.cellsOf 94 = 20 := by kernel_rfl
theorem u64_cells : Tryd.prog.cellsOf 81 = 1 := by kernel_rfl
/-- what the row's list gives: the table's cells hold its numbers -/
theorem laid_table {W : World} (h : laidMet Tryd.prog Rows.flowTellsUptoRow.laid W) : Lib.TabIs Tryd.prog W "internal/strconv.uint64pow10" .u64 Lib.pow10Tab := by
  obtain ⟨ps, hv, _⟩ := h
  obtain ⟨_, _, _, _, _, _, _, _, _, _, h1, _⟩ := hv
  obtain ⟨_, _, _, _, _, _, _, _, _, _, h2, _⟩ := h1
  obtain ⟨g', t', cs, fuel, p, q, hg', ht', hvar, hd, _, _⟩ := h2
  obtain rfl := Option.some.inj (pow_named.symm.trans hg')
  obtain rfl := Option.some.inj (pow_type.symm.trans ht')
  unfold Lib.TabIs
  rw [hvar, ← Lib.cells_of_tab (k := .u64) (zs := Lib.pow10Tab) Tryd.underlying94 Tryd.underlying81 u64_cells pow_cells hd]
noncomputable def low : Nat := (World.holding Tryd.prog default ⟨#[], #[], []⟩).heap.size
/-- a world for the witness: the settled one, two errors' texts more, the listed variables holding what their initialisers lay -/
noncomputable def laidWorld (os : Os) : World :=
  let w0 := World.holding Tryd.prog os ⟨#[.cells #[.string ⟨#[118, 97, 108, 117, 101, 32, 111, 117, 116, 32, 111, 102, 32, 114, 97, 110, 103, 101]⟩] 110, .cells #[.string ⟨#[105, 110, 118, 97, 108, 105, 100, 32, 115, 121, 110, 116, 97, 120]⟩] 110], #[], []⟩
  let put (h : Array Obj) (g : Nat) (cs : Array Value) : Array Obj := h.modify g fun
    | .cells _ t frozen => .cells cs t frozen
    | o => o
  let h1 := put w0.heap 0 (Lib.pow10Tab.map fun z => Value.int .u64 z).toArray
  let h2 := put h1 4 (([0, 1, 28, 2, 29, 14, 24, 3, 30, 22, 20, 15, 25, 17, 4, 8, 31, 27, 13, 23, 21, 19, 16, 7, 26, 12, 18, 6, 11, 5, 10, 9] : List Int).map fun z => Value.int .u8 z).toArray
  let h3 := put h2 5 (([0, 1, 56, 2, 57, 49, 28, 3, 61, 58, 42, 50, 38, 29, 17, 4, 62, 47, 59, 36, 45, 43, 51, 22, 53, 39, 33, 30, 24, 18, 12, 5, 63, 55, 48, 27, 60, 41, 37, 16, 46, 35, 44, 21, 52, 32, 23, 11, 54, 26, 40, 15, 34, 20, 31, 10, 25, 14, 19, 9, 13, 8, 7, 6] : List Int).map fun z => Value.int .u8 z).toArray
  let h4 := put h3 2 #[.iface 108 (.pointer (some ⟨low, 0, none⟩))]
  let h5 := put h4 1 #[.iface 108 (.pointer (some ⟨low + 1, 0, none⟩))]
  { w0 with heap := h5 }
theorem laid_met (os : Os) (args : Array Value) : laidMet Tryd.prog Rows.flowTellsUptoRow.laid ((laidWorld os).forCall (fun _ _ => 0) ⟨#[], args, []⟩).memory :=
  laidMet_of_run' 8 (by kernel_rfl) (by kernel_rfl)
theorem own_off : ownKnob Tryd.prog.godebug = none := by kernel_rfl

set_option maxRecDepth 100000 in
theorem flowTells_lifted (os : Os) (started : os.Started) (H : Type) (enc : TypeId × Value → H) (F : Stop.Interp) :
    ReturnsInHanded {} Tryd.checked os 3 .any ((Rows.OpenSpec.upto Rows.flowTellsSpec).preRow enc Tryd.prog Tryd.f3 Rows.flowTellsUptoRow.domain false Rows.flowTellsUptoRow.laid) (((Rows.OpenSpec.upto Rows.flowTellsSpec).at F).post enc Tryd.prog Tryd.f3 false true false false) := by
  have hx : ∃ places, DataW.whole enc Tryd.prog ((laidWorld os).forCall (fun _ _ => 0) ⟨#[], #[.string ⟨#[]⟩, .slice none 0 0, .int .i64 0], []⟩).memory Tryd.f3.params.toList Rows.flowTellsSpec.vars false #[Value.string ⟨#[]⟩, .slice none 0 0, .int .i64 0].toList 8 = some ([.lit (.string []), .nil, .lit (.int .i64 0)], [], places) := ⟨[], by kernel_rfl⟩
  obtain ⟨places, hx⟩ := hx
  refine returnsInHanded_of_row (C := Tryd.checked) (s := Rows.OpenSpec.upto Rows.flowTellsSpec) own_off started (by kernel_rfl) Tryd.func3
    (witness_row_at (enc := enc) (C := Tryd.checked) false (laidWorld os) #[.string ⟨#[]⟩, .slice none 0 0, .int .i64 0] rfl (by kernel_rfl) (by kernel_rfl) (by kernel_rfl)
      (OpenSpec.preRow_of_cond 8 hx (by kernel_rfl) (fun k hk => by cases hk; kernel_rfl) (by kernel_rfl) (laid_met os _))) ?_
  intro W base args ds gs before hval0 hW _ hcond hsz0 hL _ _
  have hsz : (DataW.weightsEach Tryd.prog (Tryd.f3.params.toList ++ Rows.flowTellsSpec.plain.varTypes Tryd.prog) (ds ++ gs)).all (· ≤ reachBytes) = true := hsz0
  have hk2 : Rows.uptoBulkAll (ds ++ gs) ≤ 1048576 := of_decide_eq_true (hcond _ rfl)
  clear hsz0 hcond
  have hval : ∀ (j : Nat) t v, Tryd.f3.params[j]? = some t → args[j]? = some v → Value.okWide Tryd.prog W .any base t v := hval0
  have hW' := hW
  obtain ⟨p, q, hA0, hV, rfl, hfz, hnd⟩ := hW
  have hA : DataW.TrodAll enc Tryd.prog W 0 (fun _ => true) true Tryd.f3.params.toList args.toList ds p := hA0
  rw [Tryd.params3] at hA hval hsz
  obtain ⟨v0, vs0, d0, ds0, p0, q0, hargs, rfl, rfl, h0, r0⟩ := trodAll_cons hA
  obtain ⟨v1, vs1, d1, ds1, p1, q1, rfl, rfl, rfl, h1, r1⟩ := trodAll_cons r0
  obtain ⟨v2, vs2, d2, ds2, p2, q2, rfl, rfl, rfl, h2, r2⟩ := trodAll_cons r1
  obtain ⟨rfl, rfl, rfl⟩ := trodAll_nil r2
  obtain rfl : args = #[v0, v1, v2] := by cases args; simp_all
  obtain ⟨rfl, rfl⟩ := trodVars_none hV
  have m1 : Rows.uptoBulk d1 ≤ 1048576 := Nat.le_trans (bulk_mem (by simp)) hk2
  obtain ⟨s, rfl, rfl, rfl, hs⟩ := open_string Tryd.underlying9 (hval 0 _ v0 rfl rfl) h0
  obtain ⟨l, ao, cap, rfl, hrow, z1⟩ := arg_rowB b_flows Tryd.underlying22 (hval 1 _ _ rfl rfl) h1
  obtain ⟨n, rfl, _⟩ := arg_int Tryd.underlying3 (hval 2 _ _ rfl rfl) h2
  have z0 := sized_string hsz (j := 0) (t := 9) rfl rfl
  have htab := laid_table hL
  clear hA0 hval0
  refine (flowTells_c W s (by unfold reachBytes at z0; have e : s.size = s.data.toList.length := (str_len s).symm; omega) l (fun f hf => by have := flow_mem hf; omega) _ ao cap hrow n htab).mono fun e W' ⟨he, bel⟩ => ?_
  subst he
  exact ⟨_, rfl, law_post (by kernel_rfl) rfl hW' rfl rfl Tryd.underlying4 (by rw [Tryd.params3]; intro t ht; simp at ht; rcases ht with rfl | rfl | rfl <;> exact ⟨by kernel_rfl, of_decide_eq_true (by kernel_rfl)⟩) bel⟩

theorem flowTells_said : Rows.FlowTellsUptoSaid :=
  OpenClaim.holds_of_cond 3 Tryd.f3 rfl rfl rfl rfl rfl rfl rfl ⟨rfl, rfl, rfl, rfl, rfl⟩ rfl rfl rfl rfl rfl (by kernel_rfl) Tryd.func3 (by kernel_rfl)
    (of_decide_eq_true (by kernel_rfl)) (by unfold Func.isWrapper; first | (rw [if_pos (by decide +kernel)]; kernel_rfl) | (rw [if_neg (by decide +kernel)]; exact ⟨rfl, rfl⟩))
    (fun os started H enc _ F => by rw [OpenClaim.pre_eq_preRow]; exact flowTells_lifted os started H enc F)

/-- no parameter wants a stand-in; the program's own looks are off -/
theorem flowTells_plain (f : FuncId) (fn : Func) (hf : Tryd.pinned.checked.prog.funcNamed "stampways/stamplaw2.FlowTells" = some f) (hfn : Tryd.pinned.checked.prog.funcs[f]? = some fn) :
    Tryd.prog.looks [] = Tryd.pinned.checked.prog.looks [] ∧ ∀ (j : Nat) t, fn.params[j]? = some t → Tryd.pinned.checked.prog.wantsStandIn t = false := by
  obtain rfl : f = 3 := Option.some.inj ((show Tryd.prog.funcNamed "stampways/stamplaw2.FlowTells" = some 3 by kernel_rfl).symm.trans hf) |>.symm
  obtain rfl : fn = Tryd.f3 := (Option.some.inj (Tryd.func3.symm.trans hfn)).symm
  refine ⟨rfl, fun j t ht => ?_⟩
  rw [Tryd.params3] at ht
  have hm := Array.mem_of_getElem? ht
  simp at hm
  rcases hm with rfl | rfl | rfl
  · exact (show Tryd.prog.wantsStandIn 9 = false by kernel_rfl)
  · exact (show Tryd.prog.wantsStandIn 22 = false by kernel_rfl)
  · exact (show Tryd.prog.wantsStandIn 3 = false by kernel_rfl)

theorem flowTells_card : Rows.FlowTellsUptoCardSaid :=
  Claim7.holds_tied_plain_at .later [] _ _ _ _ flowTells_said (fun _ h => by cases h) (by kernel_rfl) (fun _ h => by cases h) flowTellsUpto_row_tie rfl ⟨rfl, rfl⟩ (by kernel_rfl) rfl
    (fun f fn hf hfn => ⟨by kernel_rfl, (flowTells_plain f fn hf hfn).2⟩) (by kernel_rfl)

end Go.Proofs.YtpfapfgfchenoaaDoor
