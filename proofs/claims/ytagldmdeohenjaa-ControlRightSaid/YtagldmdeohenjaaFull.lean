/-
  Append onto a full row of integers: a new block; and the frame of a call that writes one given block alone.
-/
import Derived.Test.YtagldmdeohenjaaOwn
import Derived.Test.YtagldmdeohenjaaBlk
set_option linter.unusedSimpArgs false
set_option linter.unusedVariables false
namespace Go.St
open Go.RowKit

section
variable {P : Program} {w : World}

theorem run_appFull (t ty e : TypeId) (i : TypeInfo) (ht : P.underlying t = some (.slice e)) (hi : P.info? e = some i) (hz : i.zero = some (.int .i64 0)) (hsize : i.size = 1) (hby : i.bytes = 8) {ok ok' : Nat → Prop} {base : Nat}
    {b off n : Nat} {xs : List Int} (hr : rowRep intS ok w (some ⟨b, off, none⟩) n xs) (hn : xs.length = n) (hn0 : 0 < n) {ax : Option Addr} {c : Nat} {ys : List Int} {m : Nat} (hm : ys.length = m) (hm0 : 0 < m) (hsrc : srcRep intS ok' w ax ys)
    (h63 : n + m ≤ 1000000) (hbase : base ≤ w.heap.size) :
    ∃ cap' w', (Builtin.append_ #[t, t] ty #[.slice (some ⟨b, off, none⟩) n n, .slice ax m c]).run P w = .ok (.slice (some ⟨w.heap.size, 0, none⟩) (n + m) cap') w' ∧ ownR intS e (fun _ => False) base w' (some ⟨w.heap.size, 0, none⟩) (n + m) cap' (xs ++ ys) ∧ Below w.heap.size w w' := by
  have hI : ∀ x ∈ xs ++ ys, I64 x := by
    intro x hx
    rcases List.mem_append.1 hx with hx | hx
    · obtain ⟨k, hk⟩ := List.getElem?_of_mem hx
      obtain ⟨_, _, _, _, _, cs, ⟨_, h⟩, _⟩ := hr.get hk
      exact h
    · obtain ⟨k, hk⟩ := List.getElem?_of_mem hx
      rcases hsrc with rfl | ⟨_, _, _, he⟩
      · simp at hk
      · obtain ⟨cs, ⟨_, h⟩, _⟩ := he k x hk
        exact h
  have hxs : ∀ j u, (xs.map (Value.int .i64))[j]? = some u → w.cell? ((⟨b, off, none⟩ : Addr).add j) = some u := by
    intro j u hu
    rw [List.getElem?_map] at hu
    obtain ⟨x, hx, rfl⟩ := Option.map_eq_some_iff.1 hu
    obtain ⟨b', off', hbo, _, _, cs, ⟨rfl, _⟩, hce⟩ := hr.get hx
    obtain ⟨rfl, rfl⟩ : b = b' ∧ off = off' := by simpa using hbo
    have := hce 0 _ rfl
    simp only [intS, Nat.mul_one, Nat.add_zero] at this
    rw [Addr.add_lit]; exact this
  obtain ⟨a, rfl, hnew⟩ : ∃ a, ax = some a ∧ ∀ j u, (ys.map (Value.int .i64))[j]? = some u → w.cell? (a.add j) = some u := by
    rcases hsrc with rfl | ⟨b', off', rfl, he⟩
    · simp at hm; omega
    · refine ⟨_, rfl, fun j u hu => ?_⟩
      rw [List.getElem?_map] at hu
      obtain ⟨x, hx, rfl⟩ := Option.map_eq_some_iff.1 hu
      obtain ⟨cs, ⟨rfl, _⟩, hce⟩ := he j x hx
      have := hce 0 _ rfl
      simp only [intS, Nat.mul_one, Nat.add_zero] at this
      rw [Addr.add_lit]; exact this
  have hbytes : (n + m) * i.bytes ≤ 140737488355328 := by rw [hby]; omega
  have hrun := run_append_grow (P := P) w t ty e i (.int .i64 0) ht hi hz ⟨b, off, none⟩ n n (xs.map (Value.int .i64)) (by simp [hsize, hn]) hxs a m c (ys.map (Value.int .i64)) (by simp [hsize, hm]) hnew (by omega) (by omega) (growslice_fits (by omega) hbytes)
  have hge := grownCap_ge w (n + m) n e
  have hcm : grownCap w (n + m) n e ≤ maxLen := grownCap_le_maxLen w (n + m) n e (by simp only [maxLen]; omega)
  refine ⟨_, _, hrun, ⟨(xs ++ ys).map (Value.int .i64), ⟨by simp [intS, hn, hm], hge, hcm, .inr ⟨w.heap.size, _, rfl, hbase, heap_alloc_new w.drew _, ?_, ?_⟩⟩, by simp [hn, hm], ints_rep hI, by simp, by simp⟩, ?_⟩
  · simp only [Array.size_append, List.size_toArray, List.length_map, hn, hm, size_zeroCells, intS, Value.cells]
    simp
    omega
  · simp only [Array.toList_append, List.append_assoc, intS]
    rw [← List.append_assoc, ← List.map_append]
    have : (n + m) * 1 = ((xs ++ ys).map (Value.int .i64)).length := by simp [hn, hm]
    rw [this]
    exact List.take_left
  · exact ((Below.refl _ _).drew).alloc (by simp) _

theorem wpList_appFull {ops : Array Oper} {rest : List Oper} {o : Oper} {a : Act} {Q : Exit → Act → World → Prop} (hgd : o.guard = none) (s x : Operand) (t : TypeId)
    (ho : o.op = .call { callee := .builtin .append, args := #[s, x], argTypes := #[t, t] })
    (e : TypeId) (i : TypeInfo) (ht : P.underlying t = some (.slice e)) (hi : P.info? e = some i) (hz : i.zero = some (.int .i64 0)) (hsize : i.size = 1) (hby : i.bytes = 8) {ok ok' : Nat → Prop} {base : Nat}
    {b off n : Nat} {xs : List Int} (hs : a.eval s = .slice (some ⟨b, off, none⟩) n n) (hr : rowRep intS ok w (some ⟨b, off, none⟩) n xs) (hn : xs.length = n) (hn0 : 0 < n) {ax : Option Addr} {c : Nat} {ys : List Int} {m : Nat} (hx : a.eval x = .slice ax m c) (hm : ys.length = m) (hm0 : 0 < m) (hsrc : srcRep intS ok' w ax ys)
    (h63 : n + m ≤ 1000000) (hbase : base ≤ w.heap.size)
    (h : ∀ cap' w', ownR intS e (fun _ => False) base w' (some ⟨w.heap.size, 0, none⟩) (n + m) cap' (xs ++ ys) → Below w.heap.size w w' → wpList P ops Q rest (a.put o.dst (.slice (some ⟨w.heap.size, 0, none⟩) (n + m) cap')) w') : wpList P ops Q (o :: rest) a w :=
  wpList_plain hgd fun K hK => by
    obtain ⟨cap', w', hrun, h2, h3⟩ := run_appFull (P := P) t o.type e i ht hi hz hsize hby hr hn hn0 (c := c) hm hm0 hsrc h63 hbase
    unfold Oper.wp execOp
    simp only [ho, resolve, invoke, builtin, Sem.run_bind, Sem.run_pure, Result.andThen_ok, List.map_toArray, List.map_cons, List.map_nil, hs, hx, hrun]
    exact hK _ _ (h cap' w' h2 h3)
end

/-- nothing that was there has turned, but one block -/
structure But (s : Nat) (w w' : World) : Prop where
  os : w'.os = w.os
  tape : w'.tape = w.tape
  output : w'.output = w.output
  size : w.heap.size ≤ w'.heap.size
  block : ∀ k, k < w.heap.size → k ≠ s → w'.heap[k]? = w.heap[k]?

theorem But.refl (s : Nat) (w : World) : But s w w := ⟨rfl, rfl, rfl, Nat.le_refl _, fun _ _ _ => rfl⟩
theorem But.trans {s : Nat} {a b c : World} (h : But s a b) (k : But s b c) : But s a c :=
  ⟨k.os.trans h.os, k.tape.trans h.tape, k.output.trans h.output, Nat.le_trans h.size k.size, fun i hi hs => (k.block i (Nat.lt_of_lt_of_le hi h.size) hs).trans (h.block i hi hs)⟩
theorem But.of {s : Nat} {w w' : World} (h : Below w.heap.size w w') : But s w w' := ⟨h.os, h.tape, h.output, h.size, fun k hk _ => h.block k hk⟩
theorem But.set {s : Nat} (w : World) (o : Nat) (v : Value) : But s w (w.setCell ⟨s, o, none⟩ v) := by
  refine ⟨rfl, rfl, rfl, by simp [World.setCell], fun k hk hs => Below.heap_setCell w _ v k (by simpa using hs)⟩
theorem But.below {s B : Nat} {w w' : World} (h : But s w w') (hB : B ≤ s) (hw : B ≤ w.heap.size) : Below B w w' :=
  ⟨h.os, h.tape, h.output, h.size, fun k hk => h.block k (by omega) (by omega)⟩
theorem rowRep.but {α : Type} {sh : Shape α} {s : Nat} {w w' : World} {ao : Option Addr} {cap : Nat} {xs : List α} (h : rowRep sh (fun b => b ≠ s) w ao cap xs) (hb : But s w w') : rowRep sh (fun b => b ≠ s) w' ao cap xs :=
  h.mono fun b hlt hk => ⟨hk, hb.block b hlt hk⟩
theorem But.cell {s : Nat} {w w' : World} (h : But s w w') {b o : Nat} {v : Value} (hb : b < w.heap.size) (hs : b ≠ s) (hc : w.cell? ⟨b, o, none⟩ = some v) : w'.cell? ⟨b, o, none⟩ = some v := by
  rw [World.cell?_of_block (w := w) (h.block b hb hs)]; exact hc

end Go.St
