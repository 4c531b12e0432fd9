/-
  Two rows of the call's own, of data that hold rows, that grow side by side.
-/
import Derived.Test.YtagldmdeohenjaaOth
import Derived.Test.YtagldmdeohenjaaPlanS
set_option linter.unusedSimpArgs false
set_option linter.unusedVariables false
namespace Go.St
open Go.RowKit

/-- blocks from lo on, but the two rows' own -/
def twn (lo : Nat) (w : World) (ao bo : Option Addr) : Nat → Prop := fun b => lo ≤ b ∧ b < w.heap.size ∧ blk ao ≠ some b ∧ blk bo ≠ some b
/-- two rows of the call's own -/
def two {α β : Type} (sa : Shape α) (ea : TypeId) (sb : Shape β) (eb : TypeId) (lo : Nat) (w : World) (ao : Option Addr) (n ca : Nat) (xs : List α) (bo : Option Addr) (m cb : Nat) (ys : List β) : Prop :=
  ownR sa ea (twn lo w ao bo) lo w ao n ca xs ∧ ownR sb eb (twn lo w ao bo) lo w bo m cb ys ∧ ∀ k, blk ao = some k → blk bo ≠ some k

section
variable {α β : Type} {sa : Shape α} {ea : TypeId} {sb : Shape β} {eb : TypeId} {lo : Nat} {w w' : World} {ao bo ao' bo' : Option Addr} {n ca m cb n' ca' m' cb' : Nat} {xs xs' : List α} {ys ys' : List β}

theorem two.nil (sa : Shape α) (ea : TypeId) (sb : Shape β) (eb : TypeId) (lo : Nat) (w : World) : two sa ea sb eb lo w none 0 0 [] none 0 0 [] :=
  ⟨ownR.nil _ _ _ _ _ fun _ h => h.2.1, ownR.nil _ _ _ _ _ fun _ h => h.2.1, by simp [blk]⟩

theorem two.below (h : two sa ea sb eb lo w ao n ca xs bo m cb ys) (hb : Below w.heap.size w w') : two sa ea sb eb lo w' ao n ca xs bo m cb ys :=
  ⟨(h.1.below hb).weaken (fun b ⟨h1, h2, h3⟩ => ⟨h1, Nat.lt_of_lt_of_le h2 hb.size, h3⟩) (fun k hk h => h.2.2.1 hk) (fun b h => h.2.1),
   (h.2.1.below hb).weaken (fun b ⟨h1, h2, h3⟩ => ⟨h1, Nat.lt_of_lt_of_le h2 hb.size, h3⟩) (fun k hk h => h.2.2.2 hk) (fun b h => h.2.1), h.2.2⟩

theorem two.setOther {ob o : Nat} {v : Value} (h : two sa ea sb eb lo w ao n ca xs bo m cb ys) (hb : ob < lo) : two sa ea sb eb lo (w.setCell ⟨ob, o, none⟩ v) ao n ca xs bo m cb ys := by
  have hs : (w.setCell ⟨ob, o, none⟩ v).heap.size = w.heap.size := by simp
  have hk : ∀ k, lo ≤ k → (w.setCell ⟨ob, o, none⟩ v).heap[k]? = w.heap[k]? := fun k hk => Below.heap_setCell _ _ _ _ (by simp; omega)
  refine ⟨(h.1.keep (by rw [hs]; exact Nat.le_refl _) fun k hh => hk k ?_).weaken (fun b ⟨h1, h2, h3⟩ => ⟨h1, by rw [hs]; exact h2, h3⟩) (fun k hk h => h.2.2.1 hk) (fun b h => h.2.1),
    (h.2.1.keep (by rw [hs]; exact Nat.le_refl _) fun k hh => hk k ?_).weaken (fun b ⟨h1, h2, h3⟩ => ⟨h1, by rw [hs]; exact h2, h3⟩) (fun k hk h => h.2.2.2 hk) (fun b h => h.2.1), h.2.2⟩
  · rcases hh with hh | hh
    · exact (h.1.lt k hh).1
    · exact hh.1
  · rcases hh with hh | hh
    · exact (h.2.1.lt k hh).1
    · exact hh.1

/-- the first of them has grown -/
theorem two.grownA (h : two sa ea sb eb lo w ao n ca xs bo m cb ys) (ho : ownR sa ea (twn lo w ao bo) lo w' ao' n' ca' xs') (hg : w.grownBy w' (blk ao)) (hd : blk ao' = blk ao ∨ blk ao' = some w.heap.size) :
    two sa ea sb eb lo w' ao' n' ca' xs' bo m cb ys := by
  have hs : w.heap.size ≤ w'.heap.size := hg.size
  have hne : ∀ b, twn lo w ao bo b → twn lo w' ao' bo b := fun b ⟨h1, h2, h3, h4⟩ => ⟨h1, Nat.lt_of_lt_of_le h2 hs, fun e => by
    rcases hd with hd | hd
    · exact h3 (hd ▸ e)
    · rw [hd] at e; have : w.heap.size = b := by simpa using e
      omega, h4⟩
  refine ⟨ho.weaken hne (fun k hk h => h.2.2.1 hk) (fun b h => h.2.1), (h.2.1.keep hs fun k hk => ?_).weaken hne (fun k hk h => h.2.2.2 hk) (fun b h => h.2.1), fun k hk hb => ?_⟩
  · refine hg.block k ?_ ?_
    · rcases hk with hk | hk
      · exact (h.2.1.lt k hk).2
      · exact hk.2.1
    · intro e
      rcases hk with hk | hk
      · exact h.2.2 k e.symm hk
      · exact hk.2.2.1 e.symm
  · rcases hd with hd | hd
    · exact h.2.2 k (hd ▸ hk) hb
    · rw [hd] at hk; have : w.heap.size = k := by simpa using hk
      have := (h.2.1.lt k hb).2; omega

/-- the second of them has grown -/
theorem two.grownB (h : two sa ea sb eb lo w ao n ca xs bo m cb ys) (ho : ownR sb eb (twn lo w ao bo) lo w' bo' m' cb' ys') (hg : w.grownBy w' (blk bo)) (hd : blk bo' = blk bo ∨ blk bo' = some w.heap.size) :
    two sa ea sb eb lo w' ao n ca xs bo' m' cb' ys' := by
  have hs : w.heap.size ≤ w'.heap.size := hg.size
  have hne : ∀ b, twn lo w ao bo b → twn lo w' ao bo' b := fun b ⟨h1, h2, h3, h4⟩ => ⟨h1, Nat.lt_of_lt_of_le h2 hs, h3, fun e => by
    rcases hd with hd | hd
    · exact h4 (hd ▸ e)
    · rw [hd] at e; have : w.heap.size = b := by simpa using e
      omega⟩
  refine ⟨(h.1.keep hs fun k hk => ?_).weaken hne (fun k hk h => h.2.2.1 hk) (fun b h => h.2.1), ho.weaken hne (fun k hk h => h.2.2.2 hk) (fun b h => h.2.1), fun k hk hb => ?_⟩
  · refine hg.block k ?_ ?_
    · rcases hk with hk | hk
      · exact (h.1.lt k hk).2
      · exact hk.2.1
    · intro e
      rcases hk with hk | hk
      · exact h.2.2 k hk e.symm
      · exact hk.2.2.2 e.symm
  · rcases hd with hd | hd
    · exact h.2.2 k hk (hd ▸ hb)
    · rw [hd] at hb; have : w.heap.size = k := by simpa using hb
      have := (h.1.lt k hk).2; omega

/-- a row that lies besides both, as part of what they may hold -/
theorem two.okof {γ : Type} {sh : Shape γ} {ax : Option Addr} {B cap : Nat} {zs : List γ} (h : rowRep sh (fun b => B ≤ b) w ax cap zs) (hB : lo ≤ B) (ha : ∀ k, blk ao = some k → k < B) (hb : ∀ k, blk bo = some k → k < B) : rowRep sh (twn lo w ao bo) w ax cap zs :=
  h.mono (fun b hbb hh => ⟨⟨Nat.le_trans hB hh, hbb, fun e => by have hh' : B ≤ b := hh; have := ha b e; omega, fun e => by have hh' : B ≤ b := hh; have := hb b e; omega⟩, rfl⟩)
end

/-- a block of one flow as a source -/
theorem flow_one_src {w : World} {b : Nat} {e : TypeId} {f : Flow} {va na : Option Addr} {vc nc : Nat} {ok : Nat → Prop} (h : blockIs w b e #[.int .i64 f.src, .int .i64 f.dst, .slice va f.via.length vc, .slice na f.no.length nc])
    (h1 : I64 f.src) (h2 : I64 f.dst) (hv : rowRep intS ok w va vc f.via) (hn : rowRep intS ok w na nc f.no) : srcRep flowS ok w (some ⟨b, 0, none⟩) [f] := by
  refine .inr ⟨b, 0, rfl, fun i y hy => ?_⟩
  match i, hy with
  | 0, hy =>
    obtain rfl : f = y := by simpa using hy
    refine ⟨_, ⟨va, vc, na, nc, rfl, h1, h2, hv, hn⟩, fun j c hc => ?_⟩
    simp only [Nat.zero_mul, Nat.zero_add]
    rw [h.cells.1 j]
    simpa using hc
  | i + 1, hy => simp at hy
/-- the names of a flow that has a path are few -/
theorem find_lens {t : Topo} {f : Flow} (h : (findOf t f).2 = 0) : f.via.length ≤ 8 ∧ f.no.length ≤ 8 := by
  unfold findOf at h
  by_cases h1 : (topoWrong t).1 = 0
  case neg => rw [if_pos h1] at h; exact absurd h h1
  rw [if_neg (by simp [h1])] at h
  by_cases h2 : (flowsWrong [f] t.n).1 = 0
  case neg => rw [if_pos h2] at h; exact absurd h h2
  have hn := (topo_right h1).1
  have hb : flowBad t.n f = 0 := flows1 ▸ h2
  have hf := flowBad_zero hb
  have h3 := flow_via_len hf
  have h4 : f.no.Nodup := by
    unfold flowBad at hb
    rw [if_neg (by have := hf.s0; have := hf.s1; have := hf.d0; have := hf.d1; omega), if_neg hf.ne] at hb
    by_cases h3 : listBad t.n f.src f.dst [] f.via = 0
    · rw [if_neg (by simp [h3])] at hb
      by_cases h4 : listBad t.n f.src f.dst [] f.no = 0
      · exact (listBad_zero h4).1
      · rw [if_pos h4] at hb; exact absurd hb h4
    · rw [if_pos h3] at hb; exact absurd hb h3
  have h5 := nodup_len h4 fun x hx => (hf.no x hx).1
  omega
theorem noPlan_rep {ok : Nat → Prop} {w : World} : planS.rep ok w [.int .i64 0, .slice none 0 0, .slice none 0 0] noPlan := ⟨none, 0, none, 0, rfl, I64.small (by decide) (by decide), rowRep.nil _ _ _ _, rowRep.nil _ _ _ _⟩
end Go.St
