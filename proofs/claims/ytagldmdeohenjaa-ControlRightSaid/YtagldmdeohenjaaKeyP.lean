/-
  Maps whose keys are pairs of integers.
-/
import Derived.Test.YtagldmdeohenjaaMap
import Derived.Test.YtagldmdeohenjaaRows
import Derived.ChangeKeysEq
import Derived.WalkKit
import Derived.WalkSpells
import Derived.WalkLawsBesides
import Derived.Lib.Hide
import Derived.Deep.LoopGhost
import Derived.Deep.QuietTactic
import Derived.BigQuiet
import Derived.Deep.RegionWith
import Derived.Handy
set_option linter.unusedSimpArgs false
set_option linter.unusedVariables false
namespace Go.Proofs.Ytagldmdeohenjaa
open Go.RowKit Go.St

def encP (p : Int × Int) : Value := .agg #[.int .i64 p.1, .int .i64 p.2]

set_option maxRecDepth 100000 in
theorem pair_law : KeyLaw Try.prog 99 encP := by
  have hp : Try.prog.plainKey 3 = true := by kernel_rfl
  have hc : Try.prog.cellsOf 3 = 1 := by kernel_rfl
  obtain ⟨i0, hi, hi1⟩ : ∃ i, Try.prog.info? 3 = some i ∧ i.size = 1 := by
    have h : (Try.prog.info? 3).map (·.size) = some 1 := by kernel_rfl
    cases hh : Try.prog.info? 3 with
    | none => rw [hh] at h; cases h
    | some i => rw [hh] at h; exact ⟨i, rfl, by simpa using h⟩
  refine KeyLaw.asking (by simp [Try.underlying99]) ?_ ?_ ?_
  · intro e k w
    have p0 := run_part_plain (P := Try.prog) (w := w) hp (xs := #[.int .i64 k.1, .int .i64 k.2]) (off := 0) (v := .int .i64 k.1) rfl
    have p1 := run_part_plain (P := Try.prog) (w := w) hp (xs := #[.int .i64 k.1, .int .i64 k.2]) (off := 1) (v := .int .i64 k.2) rfl
    have hk : ∀ z : Int, (Instr.checkKey e 9999 3 (.int .i64 z)).run Try.prog w = .ok () w := fun z => by
      rw [Instr.checkKey]; simp [run_underlying Try.underlying3]
    rw [Instr.checkKey]
    simp only [Sem.run_bind, run_underlying Try.underlying99, Result.andThen_ok, encP]
    simp only [Std.Legacy.Range.forIn_eq_forIn_range', Std.Legacy.Range.size, Nat.sub_zero, Nat.add_one_sub_one, Nat.div_one]
    simp [List.range', run_sizeOf w hi, hi1, hc, p0, p1, hk]
  · intro a b w
    rw [Op.equal, show Op.maxDepth = 9999 + 1 from rfl, encP, encP, run_equalIn_array (w := w) 9999 _ _ Try.underlying99 hi]
    have a0 := fun w : World => run_part_plain (P := Try.prog) (w := w) hp (xs := #[.int .i64 a.1, .int .i64 a.2]) (off := 0) (v := .int .i64 a.1) rfl
    have a1 := fun w : World => run_part_plain (P := Try.prog) (w := w) hp (xs := #[.int .i64 a.1, .int .i64 a.2]) (off := 1) (v := .int .i64 a.2) rfl
    have b0 := fun w : World => run_part_plain (P := Try.prog) (w := w) hp (xs := #[.int .i64 b.1, .int .i64 b.2]) (off := 0) (v := .int .i64 b.1) rfl
    have b1 := fun w : World => run_part_plain (P := Try.prog) (w := w) hp (xs := #[.int .i64 b.1, .int .i64 b.2]) (off := 1) (v := .int .i64 b.2) rfl
    have hq := fun (w : World) (x y : Int) => run_equalIn_int (P := Try.prog) w 9998 3 .i64 .i64 x y Try.underlying3
    rw [hc, show List.range 2 = [0, 1] from rfl]
    obtain ⟨x, y⟩ := a
    obtain ⟨z, u⟩ := b
    dsimp only at a0 a1 b0 b1 ⊢
    simp [Op.eqItems, a0, a1, b0, b1, hq]
    by_cases h1 : x = z <;> by_cases h2 : y = u <;> simp [h1, h2]
  · intro k
    simp [encP, Instr.sameBits]

end Go.Proofs.Ytagldmdeohenjaa
