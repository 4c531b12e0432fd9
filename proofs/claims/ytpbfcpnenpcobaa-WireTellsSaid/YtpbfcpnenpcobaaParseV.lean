/-
  The walk of package wire's Parse.
-/
import Derived.Test.YtpbfcpnenpcobaaParseS
import Derived.Test.YtpbfcpnenpcobaaBlk
import Derived.Deep.RegionHeld3
import Derived.Test.YtpbfcpnenpcobaaOrd
set_option linter.unusedSimpArgs false
set_option linter.unusedVariables false
namespace Go.Proofs.Ytpbfcpnenpcobaa
open Go.RowKit Go.St

theorem get1 : (getE (1 : Int) (setE 2 (Value.int .i64 1) (setE 1 (Value.int .i64 2) []))).getD (.int .i64 0) = .int .i64 2 := rfl
theorem get2 : (getE (2 : Int) (setE 2 (Value.int .i64 1) (setE 1 (Value.int .i64 2) []))).getD (.int .i64 0) = .int .i64 1 := rfl
theorem get0 {k : Int} (h1 : k ≠ 1) (h2 : k ≠ 2) : (getE k (setE 2 (Value.int .i64 1) (setE 1 (Value.int .i64 2) []))).getD (.int .i64 0) = .int .i64 0 := by
  simp [getE, setE, findE, h1, h2]

theorem info_rule : (Try.prog.info? 41).map (fun i => (i.zero, i.size, i.bytes)) = some (some (.agg #[.int .i64 0, .int .i64 0, .int .i64 0]), 3, 24) := by kernel_rfl
theorem info_int : (Try.prog.info? 3).map (fun i => (i.zero, i.size, i.bytes)) = some (some (.int .i64 0), 1, 8) := by kernel_rfl

def pairsTo (ver : Int) (t : List Int) (j : Nat) : List Rule := (List.range j).map fun i => ⟨ver, t.getD (1 + 2 * i) 0, t.getD (1 + 2 * i + 1) 0⟩
theorem pairsTo_len (ver : Int) (t : List Int) (j : Nat) : (pairsTo ver t j).length = j := by simp [pairsTo]
theorem pairsTo_succ {ver : Int} {t : List Int} {i j : Nat} (h : i = 1 + 2 * j) (hi : i + 1 < t.length) : pairsTo ver t (j + 1) = pairsTo ver t j ++ [⟨ver, t[i], t[i + 1]⟩] := by
  subst h
  have h1 : t.getD (1 + 2 * j) 0 = t[1 + 2 * j] := by rw [List.getD_eq_getElem?_getD, List.getElem?_eq_getElem (by omega)]; rfl
  have h2 : t.getD (1 + 2 * j + 1) 0 = t[1 + 2 * j + 1] := by rw [List.getD_eq_getElem?_getD, List.getElem?_eq_getElem (by omega)]; rfl
  unfold pairsTo
  rw [List.range_succ, List.map_append, List.map_cons, List.map_nil, h1, h2]

/-- what the round reads -/
def SK (B1 b off i : Nat) (ao : Option Addr) (L cap : Nat) (ver x y : Int) (w' : World) : Prop := w'.cell? ⟨B1, 3, none⟩ = some (.slice ao L cap) ∧ w'.cell? ⟨B1, 2, none⟩ = some (.int .i64 ver) ∧ w'.cell? ⟨b, off + 6 + i, none⟩ = some (.int .u8 x) ∧ w'.cell? ⟨b, off + 6 + (i + 1), none⟩ = some (.int .u8 y)

def SF (B1 b off i : Nat) (ao : Option Addr) (L cap : Nat) (x : Int) (w' : World) : Prop := w'.cell? ⟨B1, 4, none⟩ = some (.slice ao L cap) ∧ w'.cell? ⟨b, off + 6 + i, none⟩ = some (.int .u8 x)
theorem SF.below {B B1 b off i : Nat} {ao : Option Addr} {L cap : Nat} {x : Int} {w w' : World} (h : SF B1 b off i ao L cap x w) (hb : Below B w w') (h1 : B1 < B) (h2 : b < B) : SF B1 b off i ao L cap x w' := by
  obtain ⟨a1, a3⟩ := h
  exact ⟨cell_at hb h1 a1, cell_at hb h2 a3⟩
def flowsTo (t : List Int) (j : Nat) : List Int := (List.range j).map fun i => t.getD (1 + i) 0
theorem flowsTo_len (t : List Int) (j : Nat) : (flowsTo t j).length = j := by simp [flowsTo]
theorem flowsTo_succ {t : List Int} {i j : Nat} (h : i = 1 + j) (hi : i < t.length) : flowsTo t (j + 1) = flowsTo t j ++ [t[i]] := by
  subst h
  have h1 : t.getD (1 + j) 0 = t[1 + j] := by rw [List.getD_eq_getElem?_getD, List.getElem?_eq_getElem (by omega)]; rfl
  unfold flowsTo
  rw [List.range_succ, List.map_append, List.map_cons, List.map_nil, h1]

theorem SK.below {B B1 b off i : Nat} {ao : Option Addr} {L cap : Nat} {ver x y : Int} {w w' : World} (h : SK B1 b off i ao L cap ver x y w) (hb : Below B w w') (h1 : B1 < B) (h2 : b < B) : SK B1 b off i ao L cap ver x y w' := by
  obtain ⟨a1, a2, a3, a4⟩ := h
  exact ⟨cell_at hb h1 a1, cell_at hb h1 a2, cell_at hb h2 a3, cell_at hb h2 a4⟩

/-- how Parse ends with an order that is looked at -/
def endsGood (o : Order) (w : World) (e : Ending) (w' : World) : Prop := ∃ cs : List Value, e = .returned (.tuple #[.agg cs.toArray, .int .i64 (finish o).2]) ∧ orderS.rep (fun b => w.heap.size ≤ b) w' cs (finish o).1 ∧ Below w.heap.size w w'

theorem zeroO_rep (ok : Nat → Prop) (w : World) : orderS.rep ok w [.int .i64 0, .int .i64 0, .int .i64 0, .slice none 0 0, .slice none 0 0] zeroO :=
  ⟨none, 0, none, 0, rfl, I64.small (by decide) (by decide), I64.small (by decide) (by decide), I64.small (by decide) (by decide), rowRep.nil _ _ _ _, rowRep.nil _ _ _ _⟩

theorem endsGood_bad {o : Order} {w w' : World} (h : ¬ wireWrong o = 0) (hb : Below w.heap.size w w') : endsGood o w (.returned (.tuple #[.agg #[.int .i64 0, .int .i64 0, .int .i64 0, .slice none 0 0, .slice none 0 0], .int .i64 (wireWrong o)])) w' :=
  ⟨[.int .i64 0, .int .i64 0, .int .i64 0, .slice none 0 0, .slice none 0 0], by unfold finish; rw [if_neg h], by unfold finish; rw [if_neg h]; exact zeroO_rep _ _, hb⟩

theorem endsGood_ok {o : Order} {w w' : World} {cs : List Value} (h : wireWrong o = 0) (hr : orderS.rep (fun b => w.heap.size ≤ b) w' cs o) (hb : Below w.heap.size w w') : endsGood o w (.returned (.tuple #[.agg cs.toArray, .int .i64 0])) w' :=
  ⟨cs, by unfold finish; rw [if_pos h], by unfold finish; rw [if_pos h]; exact hr, hb⟩

theorem set5_heap {b g : Nat} {w : World} (v0 v1 v2 v3 v4 : Value) (h : g ≠ b) : (((((w.setCell ⟨b, 0, none⟩ v0).setCell ⟨b, 1, none⟩ v1).setCell ⟨b, 2, none⟩ v2).setCell ⟨b, 3, none⟩ v3).setCell ⟨b, 4, none⟩ v4).heap[g]? = w.heap[g]? := by
  rw [Below.heap_setCell _ _ _ _ h, Below.heap_setCell _ _ _ _ h, Below.heap_setCell _ _ _ _ h, Below.heap_setCell _ _ _ _ h, Below.heap_setCell _ _ _ _ h]

/-- how Parse ends with an error -/
def endsBad (err : Int) (w : World) (e : Ending) (w' : World) : Prop := e = .returned (.tuple #[.agg #[.int .i64 0, .int .i64 0, .int .i64 0, .slice none 0 0, .slice none 0 0], .int .i64 err]) ∧ Below w.heap.size w w'

set_option maxRecDepth 100000 in
set_option maxHeartbeats 4000000 in
theorem parse_short (n cx : Nat) (ax : Option Addr) (w : World) (hn : n < 7) : Calls Try.prog 12 #[.slice ax n cx] w fun e w' => endsBad 2 w e w' := by
  have hlt : (n : Int) < 7 := by omega
  have hlt' : decide ((n : Int) < 7) = true := by rw [decide_eq_true_iff]; exact hlt
  go_enter Try.func12, Try.ntmps12
  go_wp2
  go_quiet (fail)
  go_wp2
  refine bodyPost_ret (v := .tuple #[.agg #[.int .i64 0, .int .i64 0, .int .i64 0, .slice none 0 0, .slice none 0 0], .int .i64 2]) (by simp [results, Try.results12, go_sem]) rfl ⟨rfl, ?_⟩
  (repeat' (first | with_reducible exact Below.refl _ _ | with_reducible assumption | with_reducible refine Below.drew ?_ | with_reducible refine Below_drewN ?_ _ | with_reducible refine Below.alloc ?_ ?_ _ | with_reducible refine Below.setCell ?_ ?_ _ | omega | (simp; done) | (simp; omega)))

set_option maxRecDepth 100000 in
set_option maxHeartbeats 4000000 in
theorem parse_sum (k0 k1 k2 k3 k4 k5 c num ver : Int) (t : List Int) (ok : Nat → Prop) (b off cx : Nat) (w : World) (hrow : rowRep byteS ok w (some ⟨b, off, none⟩) cx (k0 :: k1 :: k2 :: k3 :: k4 :: k5 :: t))
    (c0 : w.cell? ⟨b, off, none⟩ = some (.int .u8 k0)) (c1 : w.cell? ⟨b, off + 1, none⟩ = some (.int .u8 k1)) (c2 : w.cell? ⟨b, off + 2, none⟩ = some (.int .u8 k2))
    (c3 : w.cell? ⟨b, off + 3, none⟩ = some (.int .u8 k3)) (c4 : w.cell? ⟨b, off + 4, none⟩ = some (.int .u8 k4)) (c5 : w.cell? ⟨b, off + 5, none⟩ = some (.int .u8 k5))
    (ct : ∀ i (h : i < t.length), w.cell? ⟨b, off + 6 + i, none⟩ = some (.int .u8 t[i]) ∧ 0 ≤ t[i] ∧ t[i] ≤ 255)
    (cl : w.cell? ⟨b, off + (t.length + 6), none⟩ = some (.int .u8 c)) (hcx : t.length + 7 ≤ cx) (hlen : t.length ≤ 9223372036854775800)
    (a0 : 0 ≤ k0) (b0 : k0 ≤ 255) (a1 : 0 ≤ k1) (b1 : k1 ≤ 255) (a2 : 0 ≤ k2) (b2 : k2 ≤ 255) (a3 : 0 ≤ k3) (b3 : k3 ≤ 255) (a4 : 0 ≤ k4) (b4 : k4 ≤ 255) (a5 : 0 ≤ k5) (b5 : k5 ≤ 255)
    (hnum : bits BinOp.or IntKind.i64 (bits BinOp.or IntKind.i64 (k1 * 65536) (k2 * 256)) k3 = num) (hver : bits BinOp.or IntKind.i64 (k4 * 256) k5 = ver) (hn0 : 0 ≤ num) (hn1 : num ≤ 16777215) (hv0 : 0 ≤ ver) (hv1 : ver ≤ 65535)
    (hbl : b < w.heap.size) (hs : (sumB (k0 :: k1 :: k2 :: k3 :: k4 :: k5 :: t) != c) = true) :
    Calls Try.prog 12 #[.slice (some ⟨b, off, none⟩) (t.length + 7) cx] w fun e w' => endsBad 2 w e w' := by
  have hrow' : ∀ X nq, rowRep byteS ok ((w.alloc X).drewN nq) (some ⟨b, off, none⟩) cx (k0 :: k1 :: k2 :: k3 :: k4 :: k5 :: t) := fun X nq => hrow.below (by (repeat' (first | with_reducible exact Below.refl _ _ | with_reducible assumption | with_reducible refine Below.drew ?_ | with_reducible refine Below_drewN ?_ _ | with_reducible refine Below.alloc ?_ ?_ _ | with_reducible refine Below.setCell ?_ ?_ _ | omega | (simp; done) | (simp; omega))))
  have hlt' : decide ((t.length : Int) + 7 < 7) = false := by rw [decide_eq_false_iff_not]; omega
  have g1 : IntKind.i64.wrap ((t.length : Int) + 7 - 1) = (t.length : Int) + 6 := by rw [IntWalk.i64_in _ (by omega)]; omega
  have g3 : ((t.length : Int) + 6).toNat = t.length + 6 := by omega
  have g2 : (0 : Int) ≤ (t.length : Int) + 6 := by omega
  have g4 : (t.length : Int) + 6 ≤ (cx : Int) := by omega
  have g5 : (t.length : Int) + 6 < (t.length : Int) + 7 := by omega
  have i0 : (0 : Int) < (t.length : Int) + 6 := by omega
  have i1 : (1 : Int) < (t.length : Int) + 6 := by omega
  have i2 : (2 : Int) < (t.length : Int) + 6 := by omega
  have i3 : (3 : Int) < (t.length : Int) + 6 := by omega
  have i4 : (4 : Int) < (t.length : Int) + 6 := by omega
  have i5 : (5 : Int) < (t.length : Int) + 6 := by omega
  have hmm := @run_makeMap Try.prog
  have hlaw : KeyLaw Try.prog 3 (Value.int .i64) := KeyLaw.int Try.underlying3
  have HZ : Hid (∀ w, (zeroValue 3).run Try.prog w = .ok (.int .i64 0) w) := fun w => by kernel_rfl
  go_enter Try.func12, Try.ntmps12
  go_wp2
  go_quiet ((go_at_call 17; exact Calls.quiet_of_same (sum_n _ _ (by simp) ok _ cx _ (hrow' _ _))))
  go_wp2
  refine bodyPost_ret (v := .tuple #[.agg #[.int .i64 0, .int .i64 0, .int .i64 0, .slice none 0 0, .slice none 0 0], .int .i64 2]) (by simp [results, Try.results12, go_sem]) rfl ⟨rfl, ?_⟩
  (repeat' (first | with_reducible exact Below.refl _ _ | with_reducible assumption | with_reducible refine Below.drew ?_ | with_reducible refine Below_drewN ?_ _ | with_reducible refine Below.alloc ?_ ?_ _ | with_reducible refine Below.setCell ?_ ?_ _ | omega | (simp; done) | (simp; omega)))

set_option maxRecDepth 100000 in
set_option maxHeartbeats 4000000 in
theorem parse_add0 (k1 k2 k3 k4 k5 c num ver : Int) (t : List Int) (ok : Nat → Prop) (b off cx : Nat) (w : World) (hrow : rowRep byteS ok w (some ⟨b, off, none⟩) cx (1 :: k1 :: k2 :: k3 :: k4 :: k5 :: t))
    (c0 : w.cell? ⟨b, off, none⟩ = some (.int .u8 1)) (c1 : w.cell? ⟨b, off + 1, none⟩ = some (.int .u8 k1)) (c2 : w.cell? ⟨b, off + 2, none⟩ = some (.int .u8 k2))
    (c3 : w.cell? ⟨b, off + 3, none⟩ = some (.int .u8 k3)) (c4 : w.cell? ⟨b, off + 4, none⟩ = some (.int .u8 k4)) (c5 : w.cell? ⟨b, off + 5, none⟩ = some (.int .u8 k5))
    (ct : ∀ i (h : i < t.length), w.cell? ⟨b, off + 6 + i, none⟩ = some (.int .u8 t[i]) ∧ 0 ≤ t[i] ∧ t[i] ≤ 255)
    (cl : w.cell? ⟨b, off + (t.length + 6), none⟩ = some (.int .u8 c)) (hcx : t.length + 7 ≤ cx) (hlen : t.length ≤ 9223372036854775800)
    (a0 : 0 ≤ 1) (b0 : 1 ≤ 255) (a1 : 0 ≤ k1) (b1 : k1 ≤ 255) (a2 : 0 ≤ k2) (b2 : k2 ≤ 255) (a3 : 0 ≤ k3) (b3 : k3 ≤ 255) (a4 : 0 ≤ k4) (b4 : k4 ≤ 255) (a5 : 0 ≤ k5) (b5 : k5 ≤ 255)
    (hnum : bits BinOp.or IntKind.i64 (bits BinOp.or IntKind.i64 (k1 * 65536) (k2 * 256)) k3 = num) (hver : bits BinOp.or IntKind.i64 (k4 * 256) k5 = ver) (hn0 : 0 ≤ num) (hn1 : num ≤ 16777215) (hv0 : 0 ≤ ver) (hv1 : ver ≤ 65535)
    (hbl : b < w.heap.size) (hs : (sumB (1 :: k1 :: k2 :: k3 :: k4 :: k5 :: t) != c) = false) (ht : Hid (t.length = 0)) :
    Calls Try.prog 12 #[.slice (some ⟨b, off, none⟩) (t.length + 7) cx] w fun e w' => endsBad 2 w e w' := by
  have hrow' : ∀ X nq, rowRep byteS ok ((w.alloc X).drewN nq) (some ⟨b, off, none⟩) cx (1 :: k1 :: k2 :: k3 :: k4 :: k5 :: t) := fun X nq => hrow.below (by (repeat' (first | with_reducible exact Below.refl _ _ | with_reducible assumption | with_reducible refine Below.drew ?_ | with_reducible refine Below_drewN ?_ _ | with_reducible refine Below.alloc ?_ ?_ _ | with_reducible refine Below.setCell ?_ ?_ _ | omega | (simp; done) | (simp; omega))))
  have hlt' : decide ((t.length : Int) + 7 < 7) = false := by rw [decide_eq_false_iff_not]; omega
  have g1 : IntKind.i64.wrap ((t.length : Int) + 7 - 1) = (t.length : Int) + 6 := by rw [IntWalk.i64_in _ (by omega)]; omega
  have g3 : ((t.length : Int) + 6).toNat = t.length + 6 := by omega
  have g2 : (0 : Int) ≤ (t.length : Int) + 6 := by omega
  have g4 : (t.length : Int) + 6 ≤ (cx : Int) := by omega
  have g5 : (t.length : Int) + 6 < (t.length : Int) + 7 := by omega
  have i0 : (0 : Int) < (t.length : Int) + 6 := by omega
  have i1 : (1 : Int) < (t.length : Int) + 6 := by omega
  have i2 : (2 : Int) < (t.length : Int) + 6 := by omega
  have i3 : (3 : Int) < (t.length : Int) + 6 := by omega
  have i4 : (4 : Int) < (t.length : Int) + 6 := by omega
  have i5 : (5 : Int) < (t.length : Int) + 6 := by omega
  have hmm := @run_makeMap Try.prog
  have hlaw : KeyLaw Try.prog 3 (Value.int .i64) := KeyLaw.int Try.underlying3
  have HZ : Hid (∀ w, (zeroValue 3).run Try.prog w = .ok (.int .i64 0) w) := fun w => by kernel_rfl
  have hget := get1
  go_enter Try.func12, Try.ntmps12
  go_wp2
  go_quiet ((go_at_call 17; exact Calls.quiet_of_same (sum_n _ _ (by simp) ok _ cx _ (hrow' _ _))))
  go_wp2
  go_region_held3 (fun w' => w'.cell? ⟨b, off, none⟩ = some (.int .u8 1) ∧ w'.cell? ⟨b, off + 1, none⟩ = some (.int .u8 k1) ∧ w'.cell? ⟨b, off + 2, none⟩ = some (.int .u8 k2) ∧ w'.cell? ⟨b, off + 3, none⟩ = some (.int .u8 k3) ∧ w'.cell? ⟨b, off + 4, none⟩ = some (.int .u8 k4) ∧ w'.cell? ⟨b, off + 5, none⟩ = some (.int .u8 k5)) (go_keep) ((fail))
  rename_i hHeld
  clear hHeld
  clear hrow hrow' i0 i1 i2 i3 i4 i5 g1 g2 g3 g4 g5 hlt'
  have ht' : (t.length : Int) < 1 := by have := ht.out; omega
  go_wp2_with (first
    | (refine wpList_insertM (enc := Value.int .i64) rfl _ _ _ 44 (Or.inl rfl) 3 3 Try.underlying44 hlaw (mapIs.made' _ _ _ (by simp)) 1 (.int .i64 2) rfl rfl rfl ?_; intro w3 hm3 hg3; have hb3 := grown_below (B := w.heap.size + 2) hg3 (fun k hk => by simp at hk; omega) (by simp); obtain ⟨q3, q4⟩ := bcellB hb3)
    | (refine wpList_insertM (enc := Value.int .i64) rfl _ _ _ 44 (Or.inl rfl) 3 3 Try.underlying44 hlaw hm3 2 (.int .i64 1) rfl rfl rfl ?_; go_must (intro w4 hm4 hg4; have hb4 := grown_below (B := w.heap.size + 2) hg4 (fun k hk => by simp at hk; omega) (by have := hb3.size; simp at this; omega); obtain ⟨q5, q6⟩ := bcellB hb4; have hBm : Below w.heap.size w w4 := Below.trans (Below.trans (by (repeat' (first | with_reducible exact Below.refl _ _ | with_reducible assumption | with_reducible refine Below.drew ?_ | with_reducible refine Below_drewN ?_ _ | with_reducible refine Below.alloc ?_ ?_ _ | with_reducible refine Below.setCell ?_ ?_ _ | omega | (simp; done) | (simp; omega)))) (hb3.mono (by omega))) (hb4.mono (by omega)); obtain ⟨q7, q8⟩ := bcellB hBm; have hB0 : blockIs w4 w.heap.size 25 #[.int .i64 0, .int .i64 0, .int .i64 0, .slice none 0 0, .slice none 0 0] := (((((blockIs.new rfl).drewN _).alloc _).alloc _).grown hg3 (by first | (simp; done) | (simp; omega))).grown hg4 (by first | (simp; done) | (simp; omega)); have hB1 : blockIs w4 (w.heap.size + 1) 25 #[.int .i64 1, .int .i64 num, .int .i64 ver, .slice none 0 0, .slice none 0 0] := (((blockIs.new (by simp)).alloc _).grown hg3 (by first | (simp; done) | (simp; omega))).grown hg4 (by first | (simp; done) | (simp; omega)); obtain ⟨r1, r2⟩ := hB0.cells; obtain ⟨r3, r4⟩ := hB1.cells; clear q3 q4 q5 q6 hb3 hg3 hg4; have hBz := hB0; clear hB0))
    | (refine wpList_lookupM (enc := Value.int .i64) rfl _ _ 44 rfl 3 3 Try.underlying44 hlaw hm4 1 (.int .i64 0) HZ.out rfl rfl ?_; rw [hget])
    | fail)
  go_wp2
  have G := ((((hBz.set 0 (.int .i64 0)).set 1 (.int .i64 0)).set 2 (.int .i64 0)).set 3 (.slice none 0 0)).set 4 (.slice none 0 0)
  obtain ⟨z1, z2⟩ := G.cells
  refine bodyPost_ret (v := .tuple #[.agg #[.int .i64 0, .int .i64 0, .int .i64 0, .slice none 0 0, .slice none 0 0], .int .i64 2]) (by simp [results, Try.results12, go_sem, z1]) rfl ⟨rfl, ?_⟩
  (repeat' (first | with_reducible exact Below.refl _ _ | with_reducible assumption | with_reducible refine Below.drew ?_ | with_reducible refine Below_drewN ?_ _ | with_reducible refine Below.alloc ?_ ?_ _ | with_reducible refine Below.setCell ?_ ?_ _ | omega | (simp; done) | (simp; omega)))

set_option maxRecDepth 100000 in
set_option maxHeartbeats 4000000 in
theorem parse_addbad (k1 k2 k3 k4 k5 c num ver : Int) (t : List Int) (ok : Nat → Prop) (b off cx : Nat) (w : World) (hrow : rowRep byteS ok w (some ⟨b, off, none⟩) cx (1 :: k1 :: k2 :: k3 :: k4 :: k5 :: t))
    (c0 : w.cell? ⟨b, off, none⟩ = some (.int .u8 1)) (c1 : w.cell? ⟨b, off + 1, none⟩ = some (.int .u8 k1)) (c2 : w.cell? ⟨b, off + 2, none⟩ = some (.int .u8 k2))
    (c3 : w.cell? ⟨b, off + 3, none⟩ = some (.int .u8 k3)) (c4 : w.cell? ⟨b, off + 4, none⟩ = some (.int .u8 k4)) (c5 : w.cell? ⟨b, off + 5, none⟩ = some (.int .u8 k5))
    (ct : ∀ i (h : i < t.length), w.cell? ⟨b, off + 6 + i, none⟩ = some (.int .u8 t[i]) ∧ 0 ≤ t[i] ∧ t[i] ≤ 255)
    (cl : w.cell? ⟨b, off + (t.length + 6), none⟩ = some (.int .u8 c)) (hcx : t.length + 7 ≤ cx) (hlen : t.length ≤ 9223372036854775800)
    (a0 : 0 ≤ 1) (b0 : 1 ≤ 255) (a1 : 0 ≤ k1) (b1 : k1 ≤ 255) (a2 : 0 ≤ k2) (b2 : k2 ≤ 255) (a3 : 0 ≤ k3) (b3 : k3 ≤ 255) (a4 : 0 ≤ k4) (b4 : k4 ≤ 255) (a5 : 0 ≤ k5) (b5 : k5 ≤ 255)
    (hnum : bits BinOp.or IntKind.i64 (bits BinOp.or IntKind.i64 (k1 * 65536) (k2 * 256)) k3 = num) (hver : bits BinOp.or IntKind.i64 (k4 * 256) k5 = ver) (hn0 : 0 ≤ num) (hn1 : num ≤ 16777215) (hv0 : 0 ≤ ver) (hv1 : ver ≤ 65535)
    (hbl : b < w.heap.size) (hs : (sumB (1 :: k1 :: k2 :: k3 :: k4 :: k5 :: t) != c) = false) (ht : 1 ≤ t.length) (n : Int) (hn : w.cell? ⟨b, off + 6, none⟩ = some (.int .u8 n)) (hn2 : 0 ≤ n) (hn3 : n ≤ 255) (hne : ((t.length : Int) != 1 + 2 * n) = true) :
    Calls Try.prog 12 #[.slice (some ⟨b, off, none⟩) (t.length + 7) cx] w fun e w' => endsBad 2 w e w' := by
  have hrow' : ∀ X nq, rowRep byteS ok ((w.alloc X).drewN nq) (some ⟨b, off, none⟩) cx (1 :: k1 :: k2 :: k3 :: k4 :: k5 :: t) := fun X nq => hrow.below (by (repeat' (first | with_reducible exact Below.refl _ _ | with_reducible assumption | with_reducible refine Below.drew ?_ | with_reducible refine Below_drewN ?_ _ | with_reducible refine Below.alloc ?_ ?_ _ | with_reducible refine Below.setCell ?_ ?_ _ | omega | (simp; done) | (simp; omega))))
  have hlt' : decide ((t.length : Int) + 7 < 7) = false := by rw [decide_eq_false_iff_not]; omega
  have g1 : IntKind.i64.wrap ((t.length : Int) + 7 - 1) = (t.length : Int) + 6 := by rw [IntWalk.i64_in _ (by omega)]; omega
  have g3 : ((t.length : Int) + 6).toNat = t.length + 6 := by omega
  have g2 : (0 : Int) ≤ (t.length : Int) + 6 := by omega
  have g4 : (t.length : Int) + 6 ≤ (cx : Int) := by omega
  have g5 : (t.length : Int) + 6 < (t.length : Int) + 7 := by omega
  have i0 : (0 : Int) < (t.length : Int) + 6 := by omega
  have i1 : (1 : Int) < (t.length : Int) + 6 := by omega
  have i2 : (2 : Int) < (t.length : Int) + 6 := by omega
  have i3 : (3 : Int) < (t.length : Int) + 6 := by omega
  have i4 : (4 : Int) < (t.length : Int) + 6 := by omega
  have i5 : (5 : Int) < (t.length : Int) + 6 := by omega
  have hmm := @run_makeMap Try.prog
  have hlaw : KeyLaw Try.prog 3 (Value.int .i64) := KeyLaw.int Try.underlying3
  have HZ : Hid (∀ w, (zeroValue 3).run Try.prog w = .ok (.int .i64 0) w) := fun w => by kernel_rfl
  have hget := get1
  go_enter Try.func12, Try.ntmps12
  go_wp2
  go_quiet ((go_at_call 17; exact Calls.quiet_of_same (sum_n _ _ (by simp) ok _ cx _ (hrow' _ _))))
  go_wp2
  go_region_held3 (fun w' => w'.cell? ⟨b, off, none⟩ = some (.int .u8 1) ∧ w'.cell? ⟨b, off + 1, none⟩ = some (.int .u8 k1) ∧ w'.cell? ⟨b, off + 2, none⟩ = some (.int .u8 k2) ∧ w'.cell? ⟨b, off + 3, none⟩ = some (.int .u8 k3) ∧ w'.cell? ⟨b, off + 4, none⟩ = some (.int .u8 k4) ∧ w'.cell? ⟨b, off + 5, none⟩ = some (.int .u8 k5)) (go_keep) ((fail))
  rename_i hHeld
  clear hHeld
  clear hrow hrow' i0 i1 i2 i3 i4 i5 g1 g2 g3 g4 g5 hlt'
  have ht' : ¬ (t.length : Int) < 1 := by omega
  have ht1 : (0 : Int) < (t.length : Int) := by omega
  go_wp2_with (first
    | (refine wpList_insertM (enc := Value.int .i64) rfl _ _ _ 44 (Or.inl rfl) 3 3 Try.underlying44 hlaw (mapIs.made' _ _ _ (by simp)) 1 (.int .i64 2) rfl rfl rfl ?_; intro w3 hm3 hg3; have hb3 := grown_below (B := w.heap.size + 2) hg3 (fun k hk => by simp at hk; omega) (by simp); obtain ⟨q3, q4⟩ := bcellB hb3)
    | (refine wpList_insertM (enc := Value.int .i64) rfl _ _ _ 44 (Or.inl rfl) 3 3 Try.underlying44 hlaw hm3 2 (.int .i64 1) rfl rfl rfl ?_; go_must (intro w4 hm4 hg4; have hb4 := grown_below (B := w.heap.size + 2) hg4 (fun k hk => by simp at hk; omega) (by have := hb3.size; simp at this; omega); obtain ⟨q5, q6⟩ := bcellB hb4; have hBm : Below w.heap.size w w4 := Below.trans (Below.trans (by (repeat' (first | with_reducible exact Below.refl _ _ | with_reducible assumption | with_reducible refine Below.drew ?_ | with_reducible refine Below_drewN ?_ _ | with_reducible refine Below.alloc ?_ ?_ _ | with_reducible refine Below.setCell ?_ ?_ _ | omega | (simp; done) | (simp; omega)))) (hb3.mono (by omega))) (hb4.mono (by omega)); obtain ⟨q7, q8⟩ := bcellB hBm; have hB0 : blockIs w4 w.heap.size 25 #[.int .i64 0, .int .i64 0, .int .i64 0, .slice none 0 0, .slice none 0 0] := (((((blockIs.new rfl).drewN _).alloc _).alloc _).grown hg3 (by first | (simp; done) | (simp; omega))).grown hg4 (by first | (simp; done) | (simp; omega)); have hB1 : blockIs w4 (w.heap.size + 1) 25 #[.int .i64 1, .int .i64 num, .int .i64 ver, .slice none 0 0, .slice none 0 0] := (((blockIs.new (by simp)).alloc _).grown hg3 (by first | (simp; done) | (simp; omega))).grown hg4 (by first | (simp; done) | (simp; omega)); obtain ⟨r1, r2⟩ := hB0.cells; obtain ⟨r3, r4⟩ := hB1.cells; clear q3 q4 q5 q6 hb3 hg3 hg4; have hBz := hB0; clear hB0))
    | (refine wpList_lookupM (enc := Value.int .i64) rfl _ _ 44 rfl 3 3 Try.underlying44 hlaw hm4 1 (.int .i64 0) HZ.out rfl rfl ?_; rw [hget])
    | fail)
  go_wp2
  have G := ((((hBz.set 0 (.int .i64 0)).set 1 (.int .i64 0)).set 2 (.int .i64 0)).set 3 (.slice none 0 0)).set 4 (.slice none 0 0)
  obtain ⟨z1, z2⟩ := G.cells
  refine bodyPost_ret (v := .tuple #[.agg #[.int .i64 0, .int .i64 0, .int .i64 0, .slice none 0 0, .slice none 0 0], .int .i64 2]) (by simp [results, Try.results12, go_sem, z1]) rfl ⟨rfl, ?_⟩
  (repeat' (first | with_reducible exact Below.refl _ _ | with_reducible assumption | with_reducible refine Below.drew ?_ | with_reducible refine Below_drewN ?_ _ | with_reducible refine Below.alloc ?_ ?_ _ | with_reducible refine Below.setCell ?_ ?_ _ | omega | (simp; done) | (simp; omega)))

set_option maxRecDepth 100000 in
set_option maxHeartbeats 4000000 in
theorem parse_stamp0 (k1 k2 k3 k4 k5 c num ver : Int) (t : List Int) (ok : Nat → Prop) (b off cx : Nat) (w : World) (hrow : rowRep byteS ok w (some ⟨b, off, none⟩) cx (2 :: k1 :: k2 :: k3 :: k4 :: k5 :: t))
    (c0 : w.cell? ⟨b, off, none⟩ = some (.int .u8 2)) (c1 : w.cell? ⟨b, off + 1, none⟩ = some (.int .u8 k1)) (c2 : w.cell? ⟨b, off + 2, none⟩ = some (.int .u8 k2))
    (c3 : w.cell? ⟨b, off + 3, none⟩ = some (.int .u8 k3)) (c4 : w.cell? ⟨b, off + 4, none⟩ = some (.int .u8 k4)) (c5 : w.cell? ⟨b, off + 5, none⟩ = some (.int .u8 k5))
    (ct : ∀ i (h : i < t.length), w.cell? ⟨b, off + 6 + i, none⟩ = some (.int .u8 t[i]) ∧ 0 ≤ t[i] ∧ t[i] ≤ 255)
    (cl : w.cell? ⟨b, off + (t.length + 6), none⟩ = some (.int .u8 c)) (hcx : t.length + 7 ≤ cx) (hlen : t.length ≤ 9223372036854775800)
    (a0 : 0 ≤ 2) (b0 : 2 ≤ 255) (a1 : 0 ≤ k1) (b1 : k1 ≤ 255) (a2 : 0 ≤ k2) (b2 : k2 ≤ 255) (a3 : 0 ≤ k3) (b3 : k3 ≤ 255) (a4 : 0 ≤ k4) (b4 : k4 ≤ 255) (a5 : 0 ≤ k5) (b5 : k5 ≤ 255)
    (hnum : bits BinOp.or IntKind.i64 (bits BinOp.or IntKind.i64 (k1 * 65536) (k2 * 256)) k3 = num) (hver : bits BinOp.or IntKind.i64 (k4 * 256) k5 = ver) (hn0 : 0 ≤ num) (hn1 : num ≤ 16777215) (hv0 : 0 ≤ ver) (hv1 : ver ≤ 65535)
    (hbl : b < w.heap.size) (hs : (sumB (2 :: k1 :: k2 :: k3 :: k4 :: k5 :: t) != c) = false) (ht : Hid (t.length = 0)) :
    Calls Try.prog 12 #[.slice (some ⟨b, off, none⟩) (t.length + 7) cx] w fun e w' => endsBad 2 w e w' := by
  have hrow' : ∀ X nq, rowRep byteS ok ((w.alloc X).drewN nq) (some ⟨b, off, none⟩) cx (2 :: k1 :: k2 :: k3 :: k4 :: k5 :: t) := fun X nq => hrow.below (by (repeat' (first | with_reducible exact Below.refl _ _ | with_reducible assumption | with_reducible refine Below.drew ?_ | with_reducible refine Below_drewN ?_ _ | with_reducible refine Below.alloc ?_ ?_ _ | with_reducible refine Below.setCell ?_ ?_ _ | omega | (simp; done) | (simp; omega))))
  have hlt' : decide ((t.length : Int) + 7 < 7) = false := by rw [decide_eq_false_iff_not]; omega
  have g1 : IntKind.i64.wrap ((t.length : Int) + 7 - 1) = (t.length : Int) + 6 := by rw [IntWalk.i64_in _ (by omega)]; omega
  have g3 : ((t.length : Int) + 6).toNat = t.length + 6 := by omega
  have g2 : (0 : Int) ≤ (t.length : Int) + 6 := by omega
  have g4 : (t.length : Int) + 6 ≤ (cx : Int) := by omega
  have g5 : (t.length : Int) + 6 < (t.length : Int) + 7 := by omega
  have i0 : (0 : Int) < (t.length : Int) + 6 := by omega
  have i1 : (1 : Int) < (t.length : Int) + 6 := by omega
  have i2 : (2 : Int) < (t.length : Int) + 6 := by omega
  have i3 : (3 : Int) < (t.length : Int) + 6 := by omega
  have i4 : (4 : Int) < (t.length : Int) + 6 := by omega
  have i5 : (5 : Int) < (t.length : Int) + 6 := by omega
  have hmm := @run_makeMap Try.prog
  have hlaw : KeyLaw Try.prog 3 (Value.int .i64) := KeyLaw.int Try.underlying3
  have HZ : Hid (∀ w, (zeroValue 3).run Try.prog w = .ok (.int .i64 0) w) := fun w => by kernel_rfl
  have hget := get2
  go_enter Try.func12, Try.ntmps12
  go_wp2
  go_quiet ((go_at_call 17; exact Calls.quiet_of_same (sum_n _ _ (by simp) ok _ cx _ (hrow' _ _))))
  go_wp2
  go_region_held3 (fun w' => w'.cell? ⟨b, off, none⟩ = some (.int .u8 2) ∧ w'.cell? ⟨b, off + 1, none⟩ = some (.int .u8 k1) ∧ w'.cell? ⟨b, off + 2, none⟩ = some (.int .u8 k2) ∧ w'.cell? ⟨b, off + 3, none⟩ = some (.int .u8 k3) ∧ w'.cell? ⟨b, off + 4, none⟩ = some (.int .u8 k4) ∧ w'.cell? ⟨b, off + 5, none⟩ = some (.int .u8 k5)) (go_keep) ((fail))
  rename_i hHeld
  clear hHeld
  clear hrow hrow' i0 i1 i2 i3 i4 i5 g1 g2 g3 g4 g5 hlt'
  have ht' : (t.length : Int) < 1 := by have := ht.out; omega
  go_wp2_with (first
    | (refine wpList_insertM (enc := Value.int .i64) rfl _ _ _ 44 (Or.inl rfl) 3 3 Try.underlying44 hlaw (mapIs.made' _ _ _ (by simp)) 1 (.int .i64 2) rfl rfl rfl ?_; intro w3 hm3 hg3; have hb3 := grown_below (B := w.heap.size + 2) hg3 (fun k hk => by simp at hk; omega) (by simp); obtain ⟨q3, q4⟩ := bcellB hb3)
    | (refine wpList_insertM (enc := Value.int .i64) rfl _ _ _ 44 (Or.inl rfl) 3 3 Try.underlying44 hlaw hm3 2 (.int .i64 1) rfl rfl rfl ?_; go_must (intro w4 hm4 hg4; have hb4 := grown_below (B := w.heap.size + 2) hg4 (fun k hk => by simp at hk; omega) (by have := hb3.size; simp at this; omega); obtain ⟨q5, q6⟩ := bcellB hb4; have hBm : Below w.heap.size w w4 := Below.trans (Below.trans (by (repeat' (first | with_reducible exact Below.refl _ _ | with_reducible assumption | with_reducible refine Below.drew ?_ | with_reducible refine Below_drewN ?_ _ | with_reducible refine Below.alloc ?_ ?_ _ | with_reducible refine Below.setCell ?_ ?_ _ | omega | (simp; done) | (simp; omega)))) (hb3.mono (by omega))) (hb4.mono (by omega)); obtain ⟨q7, q8⟩ := bcellB hBm; have hB0 : blockIs w4 w.heap.size 25 #[.int .i64 0, .int .i64 0, .int .i64 0, .slice none 0 0, .slice none 0 0] := (((((blockIs.new rfl).drewN _).alloc _).alloc _).grown hg3 (by first | (simp; done) | (simp; omega))).grown hg4 (by first | (simp; done) | (simp; omega)); have hB1 : blockIs w4 (w.heap.size + 1) 25 #[.int .i64 2, .int .i64 num, .int .i64 ver, .slice none 0 0, .slice none 0 0] := (((blockIs.new (by simp)).alloc _).grown hg3 (by first | (simp; done) | (simp; omega))).grown hg4 (by first | (simp; done) | (simp; omega)); obtain ⟨r1, r2⟩ := hB0.cells; obtain ⟨r3, r4⟩ := hB1.cells; clear q3 q4 q5 q6 hb3 hg3 hg4; have hBz := hB0; clear hB0))
    | (refine wpList_lookupM (enc := Value.int .i64) rfl _ _ 44 rfl 3 3 Try.underlying44 hlaw hm4 2 (.int .i64 0) HZ.out rfl rfl ?_; rw [hget])
    | fail)
  go_wp2
  have G := ((((hBz.set 0 (.int .i64 0)).set 1 (.int .i64 0)).set 2 (.int .i64 0)).set 3 (.slice none 0 0)).set 4 (.slice none 0 0)
  obtain ⟨z1, z2⟩ := G.cells
  refine bodyPost_ret (v := .tuple #[.agg #[.int .i64 0, .int .i64 0, .int .i64 0, .slice none 0 0, .slice none 0 0], .int .i64 2]) (by simp [results, Try.results12, go_sem, z1]) rfl ⟨rfl, ?_⟩
  (repeat' (first | with_reducible exact Below.refl _ _ | with_reducible assumption | with_reducible refine Below.drew ?_ | with_reducible refine Below_drewN ?_ _ | with_reducible refine Below.alloc ?_ ?_ _ | with_reducible refine Below.setCell ?_ ?_ _ | omega | (simp; done) | (simp; omega)))

set_option maxRecDepth 100000 in
set_option maxHeartbeats 4000000 in
theorem parse_stampbad (k1 k2 k3 k4 k5 c num ver : Int) (t : List Int) (ok : Nat → Prop) (b off cx : Nat) (w : World) (hrow : rowRep byteS ok w (some ⟨b, off, none⟩) cx (2 :: k1 :: k2 :: k3 :: k4 :: k5 :: t))
    (c0 : w.cell? ⟨b, off, none⟩ = some (.int .u8 2)) (c1 : w.cell? ⟨b, off + 1, none⟩ = some (.int .u8 k1)) (c2 : w.cell? ⟨b, off + 2, none⟩ = some (.int .u8 k2))
    (c3 : w.cell? ⟨b, off + 3, none⟩ = some (.int .u8 k3)) (c4 : w.cell? ⟨b, off + 4, none⟩ = some (.int .u8 k4)) (c5 : w.cell? ⟨b, off + 5, none⟩ = some (.int .u8 k5))
    (ct : ∀ i (h : i < t.length), w.cell? ⟨b, off + 6 + i, none⟩ = some (.int .u8 t[i]) ∧ 0 ≤ t[i] ∧ t[i] ≤ 255)
    (cl : w.cell? ⟨b, off + (t.length + 6), none⟩ = some (.int .u8 c)) (hcx : t.length + 7 ≤ cx) (hlen : t.length ≤ 9223372036854775800)
    (a0 : 0 ≤ 2) (b0 : 2 ≤ 255) (a1 : 0 ≤ k1) (b1 : k1 ≤ 255) (a2 : 0 ≤ k2) (b2 : k2 ≤ 255) (a3 : 0 ≤ k3) (b3 : k3 ≤ 255) (a4 : 0 ≤ k4) (b4 : k4 ≤ 255) (a5 : 0 ≤ k5) (b5 : k5 ≤ 255)
    (hnum : bits BinOp.or IntKind.i64 (bits BinOp.or IntKind.i64 (k1 * 65536) (k2 * 256)) k3 = num) (hver : bits BinOp.or IntKind.i64 (k4 * 256) k5 = ver) (hn0 : 0 ≤ num) (hn1 : num ≤ 16777215) (hv0 : 0 ≤ ver) (hv1 : ver ≤ 65535)
    (hbl : b < w.heap.size) (hs : (sumB (2 :: k1 :: k2 :: k3 :: k4 :: k5 :: t) != c) = false) (ht : 1 ≤ t.length) (n : Int) (hn : w.cell? ⟨b, off + 6, none⟩ = some (.int .u8 n)) (hn2 : 0 ≤ n) (hn3 : n ≤ 255) (hne : ((t.length : Int) != 1 + n) = true) :
    Calls Try.prog 12 #[.slice (some ⟨b, off, none⟩) (t.length + 7) cx] w fun e w' => endsBad 2 w e w' := by
  have hrow' : ∀ X nq, rowRep byteS ok ((w.alloc X).drewN nq) (some ⟨b, off, none⟩) cx (2 :: k1 :: k2 :: k3 :: k4 :: k5 :: t) := fun X nq => hrow.below (by (repeat' (first | with_reducible exact Below.refl _ _ | with_reducible assumption | with_reducible refine Below.drew ?_ | with_reducible refine Below_drewN ?_ _ | with_reducible refine Below.alloc ?_ ?_ _ | with_reducible refine Below.setCell ?_ ?_ _ | omega | (simp; done) | (simp; omega))))
  have hlt' : decide ((t.length : Int) + 7 < 7) = false := by rw [decide_eq_false_iff_not]; omega
  have g1 : IntKind.i64.wrap ((t.length : Int) + 7 - 1) = (t.length : Int) + 6 := by rw [IntWalk.i64_in _ (by omega)]; omega
  have g3 : ((t.length : Int) + 6).toNat = t.length + 6 := by omega
  have g2 : (0 : Int) ≤ (t.length : Int) + 6 := by omega
  have g4 : (t.length : Int) + 6 ≤ (cx : Int) := by omega
  have g5 : (t.length : Int) + 6 < (t.length : Int) + 7 := by omega
  have i0 : (0 : Int) < (t.length : Int) + 6 := by omega
  have i1 : (1 : Int) < (t.length : Int) + 6 := by omega
  have i2 : (2 : Int) < (t.length : Int) + 6 := by omega
  have i3 : (3 : Int) < (t.length : Int) + 6 := by omega
  have i4 : (4 : Int) < (t.length : Int) + 6 := by omega
  have i5 : (5 : Int) < (t.length : Int) + 6 := by omega
  have hmm := @run_makeMap Try.prog
  have hlaw : KeyLaw Try.prog 3 (Value.int .i64) := KeyLaw.int Try.underlying3
  have HZ : Hid (∀ w, (zeroValue 3).run Try.prog w = .ok (.int .i64 0) w) := fun w => by kernel_rfl
  have hget := get2
  go_enter Try.func12, Try.ntmps12
  go_wp2
  go_quiet ((go_at_call 17; exact Calls.quiet_of_same (sum_n _ _ (by simp) ok _ cx _ (hrow' _ _))))
  go_wp2
  go_region_held3 (fun w' => w'.cell? ⟨b, off, none⟩ = some (.int .u8 2) ∧ w'.cell? ⟨b, off + 1, none⟩ = some (.int .u8 k1) ∧ w'.cell? ⟨b, off + 2, none⟩ = some (.int .u8 k2) ∧ w'.cell? ⟨b, off + 3, none⟩ = some (.int .u8 k3) ∧ w'.cell? ⟨b, off + 4, none⟩ = some (.int .u8 k4) ∧ w'.cell? ⟨b, off + 5, none⟩ = some (.int .u8 k5)) (go_keep) ((fail))
  rename_i hHeld
  clear hHeld
  clear hrow hrow' i0 i1 i2 i3 i4 i5 g1 g2 g3 g4 g5 hlt'
  have ht' : ¬ (t.length : Int) < 1 := by omega
  have ht1 : (0 : Int) < (t.length : Int) := by omega
  go_wp2_with (first
    | (refine wpList_insertM (enc := Value.int .i64) rfl _ _ _ 44 (Or.inl rfl) 3 3 Try.underlying44 hlaw (mapIs.made' _ _ _ (by simp)) 1 (.int .i64 2) rfl rfl rfl ?_; intro w3 hm3 hg3; have hb3 := grown_below (B := w.heap.size + 2) hg3 (fun k hk => by simp at hk; omega) (by simp); obtain ⟨q3, q4⟩ := bcellB hb3)
    | (refine wpList_insertM (enc := Value.int .i64) rfl _ _ _ 44 (Or.inl rfl) 3 3 Try.underlying44 hlaw hm3 2 (.int .i64 1) rfl rfl rfl ?_; go_must (intro w4 hm4 hg4; have hb4 := grown_below (B := w.heap.size + 2) hg4 (fun k hk => by simp at hk; omega) (by have := hb3.size; simp at this; omega); obtain ⟨q5, q6⟩ := bcellB hb4; have hBm : Below w.heap.size w w4 := Below.trans (Below.trans (by (repeat' (first | with_reducible exact Below.refl _ _ | with_reducible assumption | with_reducible refine Below.drew ?_ | with_reducible refine Below_drewN ?_ _ | with_reducible refine Below.alloc ?_ ?_ _ | with_reducible refine Below.setCell ?_ ?_ _ | omega | (simp; done) | (simp; omega)))) (hb3.mono (by omega))) (hb4.mono (by omega)); obtain ⟨q7, q8⟩ := bcellB hBm; have hB0 : blockIs w4 w.heap.size 25 #[.int .i64 0, .int .i64 0, .int .i64 0, .slice none 0 0, .slice none 0 0] := (((((blockIs.new rfl).drewN _).alloc _).alloc _).grown hg3 (by first | (simp; done) | (simp; omega))).grown hg4 (by first | (simp; done) | (simp; omega)); have hB1 : blockIs w4 (w.heap.size + 1) 25 #[.int .i64 2, .int .i64 num, .int .i64 ver, .slice none 0 0, .slice none 0 0] := (((blockIs.new (by simp)).alloc _).grown hg3 (by first | (simp; done) | (simp; omega))).grown hg4 (by first | (simp; done) | (simp; omega)); obtain ⟨r1, r2⟩ := hB0.cells; obtain ⟨r3, r4⟩ := hB1.cells; clear q3 q4 q5 q6 hb3 hg3 hg4; have hBz := hB0; clear hB0))
    | (refine wpList_lookupM (enc := Value.int .i64) rfl _ _ 44 rfl 3 3 Try.underlying44 hlaw hm4 2 (.int .i64 0) HZ.out rfl rfl ?_; rw [hget])
    | fail)
  go_wp2
  have G := ((((hBz.set 0 (.int .i64 0)).set 1 (.int .i64 0)).set 2 (.int .i64 0)).set 3 (.slice none 0 0)).set 4 (.slice none 0 0)
  obtain ⟨z1, z2⟩ := G.cells
  refine bodyPost_ret (v := .tuple #[.agg #[.int .i64 0, .int .i64 0, .int .i64 0, .slice none 0 0, .slice none 0 0], .int .i64 2]) (by simp [results, Try.results12, go_sem, z1]) rfl ⟨rfl, ?_⟩
  (repeat' (first | with_reducible exact Below.refl _ _ | with_reducible assumption | with_reducible refine Below.drew ?_ | with_reducible refine Below_drewN ?_ _ | with_reducible refine Below.alloc ?_ ?_ _ | with_reducible refine Below.setCell ?_ ?_ _ | omega | (simp; done) | (simp; omega)))

set_option maxRecDepth 100000 in
set_option maxHeartbeats 4000000 in
theorem parse_nonebad (k0 k1 k2 k3 k4 k5 c num ver : Int) (t : List Int) (ok : Nat → Prop) (b off cx : Nat) (w : World) (hrow : rowRep byteS ok w (some ⟨b, off, none⟩) cx (k0 :: k1 :: k2 :: k3 :: k4 :: k5 :: t))
    (c0 : w.cell? ⟨b, off, none⟩ = some (.int .u8 k0)) (c1 : w.cell? ⟨b, off + 1, none⟩ = some (.int .u8 k1)) (c2 : w.cell? ⟨b, off + 2, none⟩ = some (.int .u8 k2))
    (c3 : w.cell? ⟨b, off + 3, none⟩ = some (.int .u8 k3)) (c4 : w.cell? ⟨b, off + 4, none⟩ = some (.int .u8 k4)) (c5 : w.cell? ⟨b, off + 5, none⟩ = some (.int .u8 k5))
    (ct : ∀ i (h : i < t.length), w.cell? ⟨b, off + 6 + i, none⟩ = some (.int .u8 t[i]) ∧ 0 ≤ t[i] ∧ t[i] ≤ 255)
    (cl : w.cell? ⟨b, off + (t.length + 6), none⟩ = some (.int .u8 c)) (hcx : t.length + 7 ≤ cx) (hlen : t.length ≤ 9223372036854775800)
    (a0 : 0 ≤ k0) (b0 : k0 ≤ 255) (a1 : 0 ≤ k1) (b1 : k1 ≤ 255) (a2 : 0 ≤ k2) (b2 : k2 ≤ 255) (a3 : 0 ≤ k3) (b3 : k3 ≤ 255) (a4 : 0 ≤ k4) (b4 : k4 ≤ 255) (a5 : 0 ≤ k5) (b5 : k5 ≤ 255)
    (hnum : bits BinOp.or IntKind.i64 (bits BinOp.or IntKind.i64 (k1 * 65536) (k2 * 256)) k3 = num) (hver : bits BinOp.or IntKind.i64 (k4 * 256) k5 = ver) (hn0 : 0 ≤ num) (hn1 : num ≤ 16777215) (hv0 : 0 ≤ ver) (hv1 : ver ≤ 65535)
    (hbl : b < w.heap.size) (hs : (sumB (k0 :: k1 :: k2 :: k3 :: k4 :: k5 :: t) != c) = false) (hk1 : k0 ≠ 1) (hk2 : k0 ≠ 2) (ht : 1 ≤ t.length) :
    Calls Try.prog 12 #[.slice (some ⟨b, off, none⟩) (t.length + 7) cx] w fun e w' => endsBad 2 w e w' := by
  have hrow' : ∀ X nq, rowRep byteS ok ((w.alloc X).drewN nq) (some ⟨b, off, none⟩) cx (k0 :: k1 :: k2 :: k3 :: k4 :: k5 :: t) := fun X nq => hrow.below (by (repeat' (first | with_reducible exact Below.refl _ _ | with_reducible assumption | with_reducible refine Below.drew ?_ | with_reducible refine Below_drewN ?_ _ | with_reducible refine Below.alloc ?_ ?_ _ | with_reducible refine Below.setCell ?_ ?_ _ | omega | (simp; done) | (simp; omega))))
  have hlt' : decide ((t.length : Int) + 7 < 7) = false := by rw [decide_eq_false_iff_not]; omega
  have g1 : IntKind.i64.wrap ((t.length : Int) + 7 - 1) = (t.length : Int) + 6 := by rw [IntWalk.i64_in _ (by omega)]; omega
  have g3 : ((t.length : Int) + 6).toNat = t.length + 6 := by omega
  have g2 : (0 : Int) ≤ (t.length : Int) + 6 := by omega
  have g4 : (t.length : Int) + 6 ≤ (cx : Int) := by omega
  have g5 : (t.length : Int) + 6 < (t.length : Int) + 7 := by omega
  have i0 : (0 : Int) < (t.length : Int) + 6 := by omega
  have i1 : (1 : Int) < (t.length : Int) + 6 := by omega
  have i2 : (2 : Int) < (t.length : Int) + 6 := by omega
  have i3 : (3 : Int) < (t.length : Int) + 6 := by omega
  have i4 : (4 : Int) < (t.length : Int) + 6 := by omega
  have i5 : (5 : Int) < (t.length : Int) + 6 := by omega
  have hmm := @run_makeMap Try.prog
  have hlaw : KeyLaw Try.prog 3 (Value.int .i64) := KeyLaw.int Try.underlying3
  have HZ : Hid (∀ w, (zeroValue 3).run Try.prog w = .ok (.int .i64 0) w) := fun w => by kernel_rfl
  have hget := get0 hk1 hk2
  go_enter Try.func12, Try.ntmps12
  go_wp2
  go_quiet ((go_at_call 17; exact Calls.quiet_of_same (sum_n _ _ (by simp) ok _ cx _ (hrow' _ _))))
  go_wp2
  go_region_held3 (fun w' => w'.cell? ⟨b, off, none⟩ = some (.int .u8 k0) ∧ w'.cell? ⟨b, off + 1, none⟩ = some (.int .u8 k1) ∧ w'.cell? ⟨b, off + 2, none⟩ = some (.int .u8 k2) ∧ w'.cell? ⟨b, off + 3, none⟩ = some (.int .u8 k3) ∧ w'.cell? ⟨b, off + 4, none⟩ = some (.int .u8 k4) ∧ w'.cell? ⟨b, off + 5, none⟩ = some (.int .u8 k5)) (go_keep) ((fail))
  rename_i hHeld
  clear hHeld
  clear hrow hrow' i0 i1 i2 i3 i4 i5 g1 g2 g3 g4 g5 hlt'
  have ht' : ¬ (t.length : Int) < 1 := by omega
  have ht1 : (0 : Int) < (t.length : Int) := by omega
  clear hk1 hk2
  have ht2 : 0 < t.length := by omega
  have ht3 : decide ((0 : Int) < (t.length : Int)) = true := by simpa using ht2
  go_wp2_with (first
    | (refine wpList_insertM (enc := Value.int .i64) rfl _ _ _ 44 (Or.inl rfl) 3 3 Try.underlying44 hlaw (mapIs.made' _ _ _ (by simp)) 1 (.int .i64 2) rfl rfl rfl ?_; intro w3 hm3 hg3; have hb3 := grown_below (B := w.heap.size + 2) hg3 (fun k hk => by simp at hk; omega) (by simp); obtain ⟨q3, q4⟩ := bcellB hb3)
    | (refine wpList_insertM (enc := Value.int .i64) rfl _ _ _ 44 (Or.inl rfl) 3 3 Try.underlying44 hlaw hm3 2 (.int .i64 1) rfl rfl rfl ?_; go_must (intro w4 hm4 hg4; have hb4 := grown_below (B := w.heap.size + 2) hg4 (fun k hk => by simp at hk; omega) (by have := hb3.size; simp at this; omega); obtain ⟨q5, q6⟩ := bcellB hb4; have hBm : Below w.heap.size w w4 := Below.trans (Below.trans (by (repeat' (first | with_reducible exact Below.refl _ _ | with_reducible assumption | with_reducible refine Below.drew ?_ | with_reducible refine Below_drewN ?_ _ | with_reducible refine Below.alloc ?_ ?_ _ | with_reducible refine Below.setCell ?_ ?_ _ | omega | (simp; done) | (simp; omega)))) (hb3.mono (by omega))) (hb4.mono (by omega)); obtain ⟨q7, q8⟩ := bcellB hBm; have hB0 : blockIs w4 w.heap.size 25 #[.int .i64 0, .int .i64 0, .int .i64 0, .slice none 0 0, .slice none 0 0] := (((((blockIs.new rfl).drewN _).alloc _).alloc _).grown hg3 (by first | (simp; done) | (simp; omega))).grown hg4 (by first | (simp; done) | (simp; omega)); have hB1 : blockIs w4 (w.heap.size + 1) 25 #[.int .i64 k0, .int .i64 num, .int .i64 ver, .slice none 0 0, .slice none 0 0] := (((blockIs.new (by simp)).alloc _).grown hg3 (by first | (simp; done) | (simp; omega))).grown hg4 (by first | (simp; done) | (simp; omega)); obtain ⟨r1, r2⟩ := hB0.cells; obtain ⟨r3, r4⟩ := hB1.cells; clear q3 q4 q5 q6 hb3 hg3 hg4; have hBz := hB0; clear hB0))
    | (refine wpList_lookupM (enc := Value.int .i64) rfl _ _ 44 rfl 3 3 Try.underlying44 hlaw hm4 k0 (.int .i64 0) HZ.out rfl rfl ?_; rw [hget])
    | fail)
  go_wp2
  have G := ((((hBz.set 0 (.int .i64 0)).set 1 (.int .i64 0)).set 2 (.int .i64 0)).set 3 (.slice none 0 0)).set 4 (.slice none 0 0)
  obtain ⟨z1, z2⟩ := G.cells
  refine bodyPost_ret (v := .tuple #[.agg #[.int .i64 0, .int .i64 0, .int .i64 0, .slice none 0 0, .slice none 0 0], .int .i64 2]) (by simp [results, Try.results12, go_sem, z1]) rfl ⟨rfl, ?_⟩
  (repeat' (first | with_reducible exact Below.refl _ _ | with_reducible assumption | with_reducible refine Below.drew ?_ | with_reducible refine Below_drewN ?_ _ | with_reducible refine Below.alloc ?_ ?_ _ | with_reducible refine Below.setCell ?_ ?_ _ | omega | (simp; done) | (simp; omega)))

end Go.Proofs.Ytpbfcpnenpcobaa
