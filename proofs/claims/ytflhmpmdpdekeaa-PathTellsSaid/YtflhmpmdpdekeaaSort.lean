/-
  slices.Sort at a row of numbers of the call's own.
-/
import Derived.Test.YtflhmpmdpdekeaaShelf
import Derived.Test.YtflhmpmdpdekeaaReachS
import Derived.Test.YtflhmpmdpdekeaaOwn
set_option linter.unusedSimpArgs false
set_option linter.unusedVariables false
namespace Go.Proofs.Ytflhmpmdpdekeaa
open Go.RowKit Go.St Go.Sort

theorem sort_c (e : TypeId) (base : Nat) (w : World) (ao : Option Addr) (n cap : Nat) (xs : List Int) (h : ownR intS e (fun _ => False) base w ao n cap xs) (hne : xs ≠ []) (hsz : xs.length < 4611686018427387904) (hbase : base ≤ w.heap.size) :
    Calls Try.prog 42 #[.slice ao n cap] w fun e w' => e = .returned (.tuple #[]) ∧ rowRep intS (fun k => base ≤ k) w' ao cap (sortI xs) ∧ Below base w w' := by
  obtain ⟨cells, h1, rfl, h3, h4, h5⟩ := h
  obtain ⟨hc, hle, hm, ⟨rfl, h0⟩ | ⟨g, cur, rfl, hb, hg, r⟩⟩ := id h1
  · exact absurd (List.eq_nil_of_length_eq_zero (by omega)) hne
  have hglt : g < w.heap.size := (h1.lt g rfl).2
  have hel : ∀ j (hj : j < xs.length), w.cell? ⟨g, j, none⟩ = some (.int .i64 xs[j]) ∧ I64 xs[j] := by
    intro j hj
    obtain ⟨h6, h7⟩ := h3 j xs[j] (List.getElem?_eq_getElem hj)
    refine ⟨?_, h7⟩
    have := chunk_get (size := intS.size) (xs := cells) (i := j) (j := 0) (u := .int .i64 xs[j]) (by rw [h6]; rfl)
    simp only [intS, Nat.mul_one, Nat.add_zero] at this
    have := h1.cell rfl _ _ this
    simpa using this
  have hH : Holds (Value.int .i64) w g 0 xs.toArray := by
    intro j hj
    have hj' : j < xs.length := by simpa using hj
    rw [Nat.zero_add]
    refine ⟨?_, ?_⟩
    · rw [(hel j hj').1]
      simp [hj']
    · unfold World.frozen?
      simp [hg]
  refine (Try.slices_Sort_int g 0 cap xs w hH hglt hsz).mono ?_
  rintro e w' ⟨rfl, k, os, rfl⟩
  rw [sortI_merge]
  have hlen : (sortI xs).length = xs.length := (sortI_perm xs).length_eq
  have hH1 : Holds (Value.int .i64) (Sort.ahead w k) g 0 xs.toArray := holds_ahead _ _ _ _ _ _ hH
  have hH2 : Holds (Value.int .i64) (putRow (Value.int .i64) (Sort.ahead w k) g 0 (sortI xs).toArray) g 0 (sortI xs).toArray := holds_putRow _ _ _ _ xs.toArray _ hH1 (by simpa using hlen)
  have hH3 := holds_grow _ (putRow (Value.int .i64) (Sort.ahead w k) g 0 (sortI xs).toArray) os g 0 _ (by simpa using hglt) hH2
  refine ⟨rfl, ⟨by rw [hlen]; exact hle, hm, .inr ⟨g, 0, rfl, hb, by simp; omega, fun i x hx => ?_⟩⟩, ⟨rfl, rfl, rfl, by simp, fun j hj => ?_⟩⟩
  · have hi := (List.getElem?_eq_some_iff.1 hx).1
    have hx' := (List.getElem?_eq_some_iff.1 hx).2
    have hI : I64 x := by
      have hm : x ∈ xs := (sortI_perm xs).mem_iff.1 (List.mem_of_getElem? hx)
      obtain ⟨j, hj, rfl⟩ := List.getElem_of_mem hm
      exact (hel j hj).2
    refine ⟨_, ⟨rfl, hI⟩, fun j c hjc => ?_⟩
    match j, hjc with
    | 0, hjc =>
      obtain rfl : Value.int .i64 x = c := by simpa using hjc
      have := (hH3 i (by simpa using hi)).1
      simp only [intS, Nat.mul_one, Nat.add_zero]
      rw [this]
      simp [hi, hx']
    | j + 1, hjc => simp at hjc
  · rw [heap_grow_old _ _ (by simp; omega)]
    simp only [putRow, mapBlock, Array.getElem?_modify]
    rw [if_neg (by omega)]
    rfl

end Go.Proofs.Ytflhmpmdpdekeaa
