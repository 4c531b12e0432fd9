/-
  The walk of the document's Parse.
-/
import Derived.Test.YtpbfcpnenpcobaaParseC
set_option linter.unusedSimpArgs false
set_option linter.unusedVariables false
namespace Go.Proofs.Ytpbfcpnenpcobaa
open Go.RowKit Go.St

/-- what the round reads -/
def SR (B1 b off i : Nat) (ao : Option Addr) (L cap : Nat) (ver x y : Int) (w' : World) : Prop := w'.cell? ⟨B1, 3, none⟩ = some (.slice ao L cap) ∧ w'.cell? ⟨B1, 2, none⟩ = some (.int .i64 ver) ∧ w'.cell? ⟨b, off + i, none⟩ = some (.int .u8 x) ∧ w'.cell? ⟨b, off + (i + 1), none⟩ = some (.int .u8 y)
theorem SR.below {B B1 b off i : Nat} {ao : Option Addr} {L cap : Nat} {ver x y : Int} {w w' : World} (h : SR B1 b off i ao L cap ver x y w) (hb : Below B w w') (h1 : B1 < B) (h2 : b < B) : SR B1 b off i ao L cap ver x y w' := by
  obtain ⟨a1, a2, a3, a4⟩ := h
  exact ⟨cell_at hb h1 a1, cell_at hb h1 a2, cell_at hb h2 a3, cell_at hb h2 a4⟩

set_option maxRecDepth 100000 in
set_option maxHeartbeats 4000000 in
theorem refp_short (n cx : Nat) (ax : Option Addr) (w : World) (hn : n < 7) : Calls Try.prog 13 #[.slice ax n cx] w fun e w' => endsBad 2 w e w' := by
  have hlt : (n : Int) - 1 < 6 := by omega
  have g1 : IntKind.i64.wrap ((n : Int) - 1) = (n : Int) - 1 := by rw [IntWalk.i64_in _ (by omega)]
  have hlt' : decide ((n : Int) - 1 < 6) = true := by rw [decide_eq_true_iff]; exact hlt
  go_enter Try.func13, Try.ntmps13
  go_wp2
  go_quiet (fail)
  go_wp2
  refine bodyPost_ret (v := .tuple #[.agg #[.int .i64 0, .int .i64 0, .int .i64 0, .slice none 0 0, .slice none 0 0], .int .i64 2]) (by simp [results, Try.results13, go_sem]) rfl ⟨rfl, ?_⟩
  (repeat' (first | with_reducible exact Below.refl _ _ | with_reducible assumption | with_reducible refine Below.drew ?_ | with_reducible refine Below_drewN ?_ _ | with_reducible refine Below.alloc ?_ ?_ _ | with_reducible refine Below.setCell ?_ ?_ _ | omega | (simp; done) | (simp; omega)))

set_option maxRecDepth 100000 in
set_option maxHeartbeats 4000000 in
theorem refp_sum (k0 k1 k2 k3 k4 k5 c num ver : Int) (t : List Int) (ok : Nat → Prop) (b off cx : Nat) (w : World) (hrow : rowRep byteS ok w (some ⟨b, off, none⟩) cx (k0 :: k1 :: k2 :: k3 :: k4 :: k5 :: t))
    (c0 : w.cell? ⟨b, off, none⟩ = some (.int .u8 k0)) (c1 : w.cell? ⟨b, off + 1, none⟩ = some (.int .u8 k1)) (c2 : w.cell? ⟨b, off + 2, none⟩ = some (.int .u8 k2))
    (c3 : w.cell? ⟨b, off + 3, none⟩ = some (.int .u8 k3)) (c4 : w.cell? ⟨b, off + 4, none⟩ = some (.int .u8 k4)) (c5 : w.cell? ⟨b, off + 5, none⟩ = some (.int .u8 k5))
    (ct : ∀ i (h : i < t.length), w.cell? ⟨b, off + 6 + i, none⟩ = some (.int .u8 t[i]) ∧ 0 ≤ t[i] ∧ t[i] ≤ 255)
    (cl : w.cell? ⟨b, off + (t.length + 6), none⟩ = some (.int .u8 c)) (hcx : t.length + 7 ≤ cx) (hlen : t.length ≤ 9223372036854775800)
    (a0 : 0 ≤ k0) (b0 : k0 ≤ 255) (a1 : 0 ≤ k1) (b1 : k1 ≤ 255) (a2 : 0 ≤ k2) (b2 : k2 ≤ 255) (a3 : 0 ≤ k3) (b3 : k3 ≤ 255) (a4 : 0 ≤ k4) (b4 : k4 ≤ 255) (a5 : 0 ≤ k5) (b5 : k5 ≤ 255)
    (hnum : 65536 * k1 + 256 * k2 + k3 = num) (hver : 256 * k4 + k5 = ver) (hn0 : 0 ≤ num) (hn1 : num ≤ 16777215) (hv0 : 0 ≤ ver) (hv1 : ver ≤ 65535)
    (hbl : b < w.heap.size) (hs : (sumB (k0 :: k1 :: k2 :: k3 :: k4 :: k5 :: t) != c) = true) :
    Calls Try.prog 13 #[.slice (some ⟨b, off, none⟩) (t.length + 7) cx] w fun e w' => endsBad 2 w e w' := by
  have hrow' : ∀ X nq, rowRep byteS ok ((w.alloc X).drewN nq) (some ⟨b, off, none⟩) cx (k0 :: k1 :: k2 :: k3 :: k4 :: k5 :: t) := fun X nq => hrow.below (by (repeat' (first | with_reducible exact Below.refl _ _ | with_reducible assumption | with_reducible refine Below.drew ?_ | with_reducible refine Below_drewN ?_ _ | with_reducible refine Below.alloc ?_ ?_ _ | with_reducible refine Below.setCell ?_ ?_ _ | omega | (simp; done) | (simp; omega))))
  have hlt' : decide ((t.length : Int) + 6 < 6) = false := by rw [decide_eq_false_iff_not]; omega
  have g1 : IntKind.i64.wrap ((t.length : Int) + 7 - 1) = (t.length : Int) + 6 := by rw [IntWalk.i64_in _ (by omega)]; omega
  have g3 : ((t.length : Int) + 6).toNat = t.length + 6 := by omega
  have g2 : (0 : Int) ≤ (t.length : Int) + 6 := by omega
  have g4 : (t.length : Int) + 6 ≤ (cx : Int) := by omega
  have g5 : (t.length : Int) + 6 < (t.length : Int) + 7 := by omega
  have i0 : (0 : Int) < (t.length : Int) + 7 := by omega
  have i1 : (1 : Int) < (t.length : Int) + 7 := by omega
  have i2 : (2 : Int) < (t.length : Int) + 7 := by omega
  have i3 : (3 : Int) < (t.length : Int) + 7 := by omega
  have i4 : (4 : Int) < (t.length : Int) + 7 := by omega
  have i5 : (5 : Int) < (t.length : Int) + 7 := by omega
  go_enter Try.func13, Try.ntmps13
  go_wp2
  go_quiet ((go_at_call 18; exact Calls.quiet_of_same (refSum_n _ _ (by simp) ok _ cx _ (hrow' _ _))))
  go_wp2
  refine bodyPost_ret (v := .tuple #[.agg #[.int .i64 0, .int .i64 0, .int .i64 0, .slice none 0 0, .slice none 0 0], .int .i64 2]) (by simp [results, Try.results13, go_sem]) rfl ⟨rfl, ?_⟩
  (repeat' (first | with_reducible exact Below.refl _ _ | with_reducible assumption | with_reducible refine Below.drew ?_ | with_reducible refine Below_drewN ?_ _ | with_reducible refine Below.alloc ?_ ?_ _ | with_reducible refine Below.setCell ?_ ?_ _ | omega | (simp; done) | (simp; omega)))

set_option maxRecDepth 100000 in
set_option maxHeartbeats 4000000 in
theorem refp_add0 (k1 k2 k3 k4 k5 c num ver : Int) (t : List Int) (ok : Nat → Prop) (b off cx : Nat) (w : World) (hrow : rowRep byteS ok w (some ⟨b, off, none⟩) cx (1 :: k1 :: k2 :: k3 :: k4 :: k5 :: t))
    (c0 : w.cell? ⟨b, off, none⟩ = some (.int .u8 1)) (c1 : w.cell? ⟨b, off + 1, none⟩ = some (.int .u8 k1)) (c2 : w.cell? ⟨b, off + 2, none⟩ = some (.int .u8 k2))
    (c3 : w.cell? ⟨b, off + 3, none⟩ = some (.int .u8 k3)) (c4 : w.cell? ⟨b, off + 4, none⟩ = some (.int .u8 k4)) (c5 : w.cell? ⟨b, off + 5, none⟩ = some (.int .u8 k5))
    (ct : ∀ i (h : i < t.length), w.cell? ⟨b, off + 6 + i, none⟩ = some (.int .u8 t[i]) ∧ 0 ≤ t[i] ∧ t[i] ≤ 255)
    (cl : w.cell? ⟨b, off + (t.length + 6), none⟩ = some (.int .u8 c)) (hcx : t.length + 7 ≤ cx) (hlen : t.length ≤ 9223372036854775800)
    (a0 : 0 ≤ 1) (b0 : 1 ≤ 255) (a1 : 0 ≤ k1) (b1 : k1 ≤ 255) (a2 : 0 ≤ k2) (b2 : k2 ≤ 255) (a3 : 0 ≤ k3) (b3 : k3 ≤ 255) (a4 : 0 ≤ k4) (b4 : k4 ≤ 255) (a5 : 0 ≤ k5) (b5 : k5 ≤ 255)
    (hnum : 65536 * k1 + 256 * k2 + k3 = num) (hver : 256 * k4 + k5 = ver) (hn0 : 0 ≤ num) (hn1 : num ≤ 16777215) (hv0 : 0 ≤ ver) (hv1 : ver ≤ 65535)
    (hbl : b < w.heap.size) (hs : (sumB (1 :: k1 :: k2 :: k3 :: k4 :: k5 :: t) != c) = false) (ht : Hid (t.length = 0)) :
    Calls Try.prog 13 #[.slice (some ⟨b, off, none⟩) (t.length + 7) cx] w fun e w' => endsBad 2 w e w' := by
  have hrow' : ∀ X nq, rowRep byteS ok ((w.alloc X).drewN nq) (some ⟨b, off, none⟩) cx (1 :: k1 :: k2 :: k3 :: k4 :: k5 :: t) := fun X nq => hrow.below (by (repeat' (first | with_reducible exact Below.refl _ _ | with_reducible assumption | with_reducible refine Below.drew ?_ | with_reducible refine Below_drewN ?_ _ | with_reducible refine Below.alloc ?_ ?_ _ | with_reducible refine Below.setCell ?_ ?_ _ | omega | (simp; done) | (simp; omega))))
  have hlt' : decide ((t.length : Int) + 6 < 6) = false := by rw [decide_eq_false_iff_not]; omega
  have g1 : IntKind.i64.wrap ((t.length : Int) + 7 - 1) = (t.length : Int) + 6 := by rw [IntWalk.i64_in _ (by omega)]; omega
  have g3 : ((t.length : Int) + 6).toNat = t.length + 6 := by omega
  have g2 : (0 : Int) ≤ (t.length : Int) + 6 := by omega
  have g4 : (t.length : Int) + 6 ≤ (cx : Int) := by omega
  have g5 : (t.length : Int) + 6 < (t.length : Int) + 7 := by omega
  have i0 : (0 : Int) < (t.length : Int) + 7 := by omega
  have i1 : (1 : Int) < (t.length : Int) + 7 := by omega
  have i2 : (2 : Int) < (t.length : Int) + 7 := by omega
  have i3 : (3 : Int) < (t.length : Int) + 7 := by omega
  have i4 : (4 : Int) < (t.length : Int) + 7 := by omega
  have i5 : (5 : Int) < (t.length : Int) + 7 := by omega
  go_enter Try.func13, Try.ntmps13
  go_wp2
  go_quiet ((go_at_call 18; exact Calls.quiet_of_same (refSum_n _ _ (by simp) ok _ cx _ (hrow' _ _))))
  go_wp2
  go_region_held3 (fun w' => w'.cell? ⟨b, off, none⟩ = some (.int .u8 1) ∧ w'.cell? ⟨b, off + 1, none⟩ = some (.int .u8 k1) ∧ w'.cell? ⟨b, off + 2, none⟩ = some (.int .u8 k2) ∧ w'.cell? ⟨b, off + 3, none⟩ = some (.int .u8 k3) ∧ w'.cell? ⟨b, off + 4, none⟩ = some (.int .u8 k4) ∧ w'.cell? ⟨b, off + 5, none⟩ = some (.int .u8 k5)) (go_keep) ((fail))
  rename_i hHeld
  clear hHeld
  clear hrow hrow' i0 i1 i2 i3 i4 i5 g1 g3 g4 g5 hlt'
  have ht' : (t.length : Int) + 6 < 7 := by have := ht.out; omega
  have ht2 : decide ((t.length : Int) + 6 < 7) = true := by simpa using ht'
  go_wp2
  refine bodyPost_ret (v := .tuple #[.agg #[.int .i64 0, .int .i64 0, .int .i64 0, .slice none 0 0, .slice none 0 0], .int .i64 2]) (by simp [results, Try.results13, go_sem]) rfl ⟨rfl, ?_⟩
  (repeat' (first | with_reducible exact Below.refl _ _ | with_reducible assumption | with_reducible refine Below.drew ?_ | with_reducible refine Below_drewN ?_ _ | with_reducible refine Below.alloc ?_ ?_ _ | with_reducible refine Below.setCell ?_ ?_ _ | omega | (simp; done) | (simp; omega)))

set_option maxRecDepth 100000 in
set_option maxHeartbeats 4000000 in
theorem refp_addbad (k1 k2 k3 k4 k5 c num ver : Int) (t : List Int) (ok : Nat → Prop) (b off cx : Nat) (w : World) (hrow : rowRep byteS ok w (some ⟨b, off, none⟩) cx (1 :: k1 :: k2 :: k3 :: k4 :: k5 :: t))
    (c0 : w.cell? ⟨b, off, none⟩ = some (.int .u8 1)) (c1 : w.cell? ⟨b, off + 1, none⟩ = some (.int .u8 k1)) (c2 : w.cell? ⟨b, off + 2, none⟩ = some (.int .u8 k2))
    (c3 : w.cell? ⟨b, off + 3, none⟩ = some (.int .u8 k3)) (c4 : w.cell? ⟨b, off + 4, none⟩ = some (.int .u8 k4)) (c5 : w.cell? ⟨b, off + 5, none⟩ = some (.int .u8 k5))
    (ct : ∀ i (h : i < t.length), w.cell? ⟨b, off + 6 + i, none⟩ = some (.int .u8 t[i]) ∧ 0 ≤ t[i] ∧ t[i] ≤ 255)
    (cl : w.cell? ⟨b, off + (t.length + 6), none⟩ = some (.int .u8 c)) (hcx : t.length + 7 ≤ cx) (hlen : t.length ≤ 9223372036854775800)
    (a0 : 0 ≤ 1) (b0 : 1 ≤ 255) (a1 : 0 ≤ k1) (b1 : k1 ≤ 255) (a2 : 0 ≤ k2) (b2 : k2 ≤ 255) (a3 : 0 ≤ k3) (b3 : k3 ≤ 255) (a4 : 0 ≤ k4) (b4 : k4 ≤ 255) (a5 : 0 ≤ k5) (b5 : k5 ≤ 255)
    (hnum : 65536 * k1 + 256 * k2 + k3 = num) (hver : 256 * k4 + k5 = ver) (hn0 : 0 ≤ num) (hn1 : num ≤ 16777215) (hv0 : 0 ≤ ver) (hv1 : ver ≤ 65535)
    (hbl : b < w.heap.size) (hs : (sumB (1 :: k1 :: k2 :: k3 :: k4 :: k5 :: t) != c) = false) (ht : 1 ≤ t.length) (n : Int) (hn : w.cell? ⟨b, off + 6, none⟩ = some (.int .u8 n)) (hn2 : 0 ≤ n) (hn3 : n ≤ 255) (hne : ((t.length : Int) + 6 != 7 + 2 * n) = true) :
    Calls Try.prog 13 #[.slice (some ⟨b, off, none⟩) (t.length + 7) cx] w fun e w' => endsBad 2 w e w' := by
  have hrow' : ∀ X nq, rowRep byteS ok ((w.alloc X).drewN nq) (some ⟨b, off, none⟩) cx (1 :: k1 :: k2 :: k3 :: k4 :: k5 :: t) := fun X nq => hrow.below (by (repeat' (first | with_reducible exact Below.refl _ _ | with_reducible assumption | with_reducible refine Below.drew ?_ | with_reducible refine Below_drewN ?_ _ | with_reducible refine Below.alloc ?_ ?_ _ | with_reducible refine Below.setCell ?_ ?_ _ | omega | (simp; done) | (simp; omega))))
  have hlt' : decide ((t.length : Int) + 6 < 6) = false := by rw [decide_eq_false_iff_not]; omega
  have g1 : IntKind.i64.wrap ((t.length : Int) + 7 - 1) = (t.length : Int) + 6 := by rw [IntWalk.i64_in _ (by omega)]; omega
  have g3 : ((t.length : Int) + 6).toNat = t.length + 6 := by omega
  have g2 : (0 : Int) ≤ (t.length : Int) + 6 := by omega
  have g4 : (t.length : Int) + 6 ≤ (cx : Int) := by omega
  have g5 : (t.length : Int) + 6 < (t.length : Int) + 7 := by omega
  have i0 : (0 : Int) < (t.length : Int) + 7 := by omega
  have i1 : (1 : Int) < (t.length : Int) + 7 := by omega
  have i2 : (2 : Int) < (t.length : Int) + 7 := by omega
  have i3 : (3 : Int) < (t.length : Int) + 7 := by omega
  have i4 : (4 : Int) < (t.length : Int) + 7 := by omega
  have i5 : (5 : Int) < (t.length : Int) + 7 := by omega
  go_enter Try.func13, Try.ntmps13
  go_wp2
  go_quiet ((go_at_call 18; exact Calls.quiet_of_same (refSum_n _ _ (by simp) ok _ cx _ (hrow' _ _))))
  go_wp2
  go_region_held3 (fun w' => w'.cell? ⟨b, off, none⟩ = some (.int .u8 1) ∧ w'.cell? ⟨b, off + 1, none⟩ = some (.int .u8 k1) ∧ w'.cell? ⟨b, off + 2, none⟩ = some (.int .u8 k2) ∧ w'.cell? ⟨b, off + 3, none⟩ = some (.int .u8 k3) ∧ w'.cell? ⟨b, off + 4, none⟩ = some (.int .u8 k4) ∧ w'.cell? ⟨b, off + 5, none⟩ = some (.int .u8 k5)) (go_keep) ((fail))
  rename_i hHeld
  clear hHeld
  clear hrow hrow' i0 i1 i2 i3 i4 i5 g1 g3 g4 g5 hlt'
  have ht' : decide ((t.length : Int) + 6 < 7) = false := by rw [decide_eq_false_iff_not]; omega
  have i6 : (6 : Int) < (t.length : Int) + 7 := by omega
  go_wp2
  refine bodyPost_ret (v := .tuple #[.agg #[.int .i64 0, .int .i64 0, .int .i64 0, .slice none 0 0, .slice none 0 0], .int .i64 2]) (by simp [results, Try.results13, go_sem]) rfl ⟨rfl, ?_⟩
  (repeat' (first | with_reducible exact Below.refl _ _ | with_reducible assumption | with_reducible refine Below.drew ?_ | with_reducible refine Below_drewN ?_ _ | with_reducible refine Below.alloc ?_ ?_ _ | with_reducible refine Below.setCell ?_ ?_ _ | omega | (simp; done) | (simp; omega)))

set_option maxRecDepth 100000 in
set_option maxHeartbeats 4000000 in
theorem refp_stamp0 (k1 k2 k3 k4 k5 c num ver : Int) (t : List Int) (ok : Nat → Prop) (b off cx : Nat) (w : World) (hrow : rowRep byteS ok w (some ⟨b, off, none⟩) cx (2 :: k1 :: k2 :: k3 :: k4 :: k5 :: t))
    (c0 : w.cell? ⟨b, off, none⟩ = some (.int .u8 2)) (c1 : w.cell? ⟨b, off + 1, none⟩ = some (.int .u8 k1)) (c2 : w.cell? ⟨b, off + 2, none⟩ = some (.int .u8 k2))
    (c3 : w.cell? ⟨b, off + 3, none⟩ = some (.int .u8 k3)) (c4 : w.cell? ⟨b, off + 4, none⟩ = some (.int .u8 k4)) (c5 : w.cell? ⟨b, off + 5, none⟩ = some (.int .u8 k5))
    (ct : ∀ i (h : i < t.length), w.cell? ⟨b, off + 6 + i, none⟩ = some (.int .u8 t[i]) ∧ 0 ≤ t[i] ∧ t[i] ≤ 255)
    (cl : w.cell? ⟨b, off + (t.length + 6), none⟩ = some (.int .u8 c)) (hcx : t.length + 7 ≤ cx) (hlen : t.length ≤ 9223372036854775800)
    (a0 : 0 ≤ 2) (b0 : 2 ≤ 255) (a1 : 0 ≤ k1) (b1 : k1 ≤ 255) (a2 : 0 ≤ k2) (b2 : k2 ≤ 255) (a3 : 0 ≤ k3) (b3 : k3 ≤ 255) (a4 : 0 ≤ k4) (b4 : k4 ≤ 255) (a5 : 0 ≤ k5) (b5 : k5 ≤ 255)
    (hnum : 65536 * k1 + 256 * k2 + k3 = num) (hver : 256 * k4 + k5 = ver) (hn0 : 0 ≤ num) (hn1 : num ≤ 16777215) (hv0 : 0 ≤ ver) (hv1 : ver ≤ 65535)
    (hbl : b < w.heap.size) (hs : (sumB (2 :: k1 :: k2 :: k3 :: k4 :: k5 :: t) != c) = false) (ht : Hid (t.length = 0)) :
    Calls Try.prog 13 #[.slice (some ⟨b, off, none⟩) (t.length + 7) cx] w fun e w' => endsBad 2 w e w' := by
  have hrow' : ∀ X nq, rowRep byteS ok ((w.alloc X).drewN nq) (some ⟨b, off, none⟩) cx (2 :: k1 :: k2 :: k3 :: k4 :: k5 :: t) := fun X nq => hrow.below (by (repeat' (first | with_reducible exact Below.refl _ _ | with_reducible assumption | with_reducible refine Below.drew ?_ | with_reducible refine Below_drewN ?_ _ | with_reducible refine Below.alloc ?_ ?_ _ | with_reducible refine Below.setCell ?_ ?_ _ | omega | (simp; done) | (simp; omega))))
  have hlt' : decide ((t.length : Int) + 6 < 6) = false := by rw [decide_eq_false_iff_not]; omega
  have g1 : IntKind.i64.wrap ((t.length : Int) + 7 - 1) = (t.length : Int) + 6 := by rw [IntWalk.i64_in _ (by omega)]; omega
  have g3 : ((t.length : Int) + 6).toNat = t.length + 6 := by omega
  have g2 : (0 : Int) ≤ (t.length : Int) + 6 := by omega
  have g4 : (t.length : Int) + 6 ≤ (cx : Int) := by omega
  have g5 : (t.length : Int) + 6 < (t.length : Int) + 7 := by omega
  have i0 : (0 : Int) < (t.length : Int) + 7 := by omega
  have i1 : (1 : Int) < (t.length : Int) + 7 := by omega
  have i2 : (2 : Int) < (t.length : Int) + 7 := by omega
  have i3 : (3 : Int) < (t.length : Int) + 7 := by omega
  have i4 : (4 : Int) < (t.length : Int) + 7 := by omega
  have i5 : (5 : Int) < (t.length : Int) + 7 := by omega
  go_enter Try.func13, Try.ntmps13
  go_wp2
  go_quiet ((go_at_call 18; exact Calls.quiet_of_same (refSum_n _ _ (by simp) ok _ cx _ (hrow' _ _))))
  go_wp2
  go_region_held3 (fun w' => w'.cell? ⟨b, off, none⟩ = some (.int .u8 2) ∧ w'.cell? ⟨b, off + 1, none⟩ = some (.int .u8 k1) ∧ w'.cell? ⟨b, off + 2, none⟩ = some (.int .u8 k2) ∧ w'.cell? ⟨b, off + 3, none⟩ = some (.int .u8 k3) ∧ w'.cell? ⟨b, off + 4, none⟩ = some (.int .u8 k4) ∧ w'.cell? ⟨b, off + 5, none⟩ = some (.int .u8 k5)) (go_keep) ((fail))
  rename_i hHeld
  clear hHeld
  clear hrow hrow' i0 i1 i2 i3 i4 i5 g1 g3 g4 g5 hlt'
  have ht' : (t.length : Int) + 6 < 7 := by have := ht.out; omega
  have ht2 : decide ((t.length : Int) + 6 < 7) = true := by simpa using ht'
  go_wp2
  refine bodyPost_ret (v := .tuple #[.agg #[.int .i64 0, .int .i64 0, .int .i64 0, .slice none 0 0, .slice none 0 0], .int .i64 2]) (by simp [results, Try.results13, go_sem]) rfl ⟨rfl, ?_⟩
  (repeat' (first | with_reducible exact Below.refl _ _ | with_reducible assumption | with_reducible refine Below.drew ?_ | with_reducible refine Below_drewN ?_ _ | with_reducible refine Below.alloc ?_ ?_ _ | with_reducible refine Below.setCell ?_ ?_ _ | omega | (simp; done) | (simp; omega)))

set_option maxRecDepth 100000 in
set_option maxHeartbeats 4000000 in
theorem refp_stampbad (k1 k2 k3 k4 k5 c num ver : Int) (t : List Int) (ok : Nat → Prop) (b off cx : Nat) (w : World) (hrow : rowRep byteS ok w (some ⟨b, off, none⟩) cx (2 :: k1 :: k2 :: k3 :: k4 :: k5 :: t))
    (c0 : w.cell? ⟨b, off, none⟩ = some (.int .u8 2)) (c1 : w.cell? ⟨b, off + 1, none⟩ = some (.int .u8 k1)) (c2 : w.cell? ⟨b, off + 2, none⟩ = some (.int .u8 k2))
    (c3 : w.cell? ⟨b, off + 3, none⟩ = some (.int .u8 k3)) (c4 : w.cell? ⟨b, off + 4, none⟩ = some (.int .u8 k4)) (c5 : w.cell? ⟨b, off + 5, none⟩ = some (.int .u8 k5))
    (ct : ∀ i (h : i < t.length), w.cell? ⟨b, off + 6 + i, none⟩ = some (.int .u8 t[i]) ∧ 0 ≤ t[i] ∧ t[i] ≤ 255)
    (cl : w.cell? ⟨b, off + (t.length + 6), none⟩ = some (.int .u8 c)) (hcx : t.length + 7 ≤ cx) (hlen : t.length ≤ 9223372036854775800)
    (a0 : 0 ≤ 2) (b0 : 2 ≤ 255) (a1 : 0 ≤ k1) (b1 : k1 ≤ 255) (a2 : 0 ≤ k2) (b2 : k2 ≤ 255) (a3 : 0 ≤ k3) (b3 : k3 ≤ 255) (a4 : 0 ≤ k4) (b4 : k4 ≤ 255) (a5 : 0 ≤ k5) (b5 : k5 ≤ 255)
    (hnum : 65536 * k1 + 256 * k2 + k3 = num) (hver : 256 * k4 + k5 = ver) (hn0 : 0 ≤ num) (hn1 : num ≤ 16777215) (hv0 : 0 ≤ ver) (hv1 : ver ≤ 65535)
    (hbl : b < w.heap.size) (hs : (sumB (2 :: k1 :: k2 :: k3 :: k4 :: k5 :: t) != c) = false) (ht : 1 ≤ t.length) (n : Int) (hn : w.cell? ⟨b, off + 6, none⟩ = some (.int .u8 n)) (hn2 : 0 ≤ n) (hn3 : n ≤ 255) (hne : ((t.length : Int) + 6 != 7 + n) = true) :
    Calls Try.prog 13 #[.slice (some ⟨b, off, none⟩) (t.length + 7) cx] w fun e w' => endsBad 2 w e w' := by
  have hrow' : ∀ X nq, rowRep byteS ok ((w.alloc X).drewN nq) (some ⟨b, off, none⟩) cx (2 :: k1 :: k2 :: k3 :: k4 :: k5 :: t) := fun X nq => hrow.below (by (repeat' (first | with_reducible exact Below.refl _ _ | with_reducible assumption | with_reducible refine Below.drew ?_ | with_reducible refine Below_drewN ?_ _ | with_reducible refine Below.alloc ?_ ?_ _ | with_reducible refine Below.setCell ?_ ?_ _ | omega | (simp; done) | (simp; omega))))
  have hlt' : decide ((t.length : Int) + 6 < 6) = false := by rw [decide_eq_false_iff_not]; omega
  have g1 : IntKind.i64.wrap ((t.length : Int) + 7 - 1) = (t.length : Int) + 6 := by rw [IntWalk.i64_in _ (by omega)]; omega
  have g3 : ((t.length : Int) + 6).toNat = t.length + 6 := by omega
  have g2 : (0 : Int) ≤ (t.length : Int) + 6 := by omega
  have g4 : (t.length : Int) + 6 ≤ (cx : Int) := by omega
  have g5 : (t.length : Int) + 6 < (t.length : Int) + 7 := by omega
  have i0 : (0 : Int) < (t.length : Int) + 7 := by omega
  have i1 : (1 : Int) < (t.length : Int) + 7 := by omega
  have i2 : (2 : Int) < (t.length : Int) + 7 := by omega
  have i3 : (3 : Int) < (t.length : Int) + 7 := by omega
  have i4 : (4 : Int) < (t.length : Int) + 7 := by omega
  have i5 : (5 : Int) < (t.length : Int) + 7 := by omega
  go_enter Try.func13, Try.ntmps13
  go_wp2
  go_quiet ((go_at_call 18; exact Calls.quiet_of_same (refSum_n _ _ (by simp) ok _ cx _ (hrow' _ _))))
  go_wp2
  go_region_held3 (fun w' => w'.cell? ⟨b, off, none⟩ = some (.int .u8 2) ∧ w'.cell? ⟨b, off + 1, none⟩ = some (.int .u8 k1) ∧ w'.cell? ⟨b, off + 2, none⟩ = some (.int .u8 k2) ∧ w'.cell? ⟨b, off + 3, none⟩ = some (.int .u8 k3) ∧ w'.cell? ⟨b, off + 4, none⟩ = some (.int .u8 k4) ∧ w'.cell? ⟨b, off + 5, none⟩ = some (.int .u8 k5)) (go_keep) ((fail))
  rename_i hHeld
  clear hHeld
  clear hrow hrow' i0 i1 i2 i3 i4 i5 g1 g3 g4 g5 hlt'
  have ht' : decide ((t.length : Int) + 6 < 7) = false := by rw [decide_eq_false_iff_not]; omega
  have i6 : (6 : Int) < (t.length : Int) + 7 := by omega
  go_wp2
  refine bodyPost_ret (v := .tuple #[.agg #[.int .i64 0, .int .i64 0, .int .i64 0, .slice none 0 0, .slice none 0 0], .int .i64 2]) (by simp [results, Try.results13, go_sem]) rfl ⟨rfl, ?_⟩
  (repeat' (first | with_reducible exact Below.refl _ _ | with_reducible assumption | with_reducible refine Below.drew ?_ | with_reducible refine Below_drewN ?_ _ | with_reducible refine Below.alloc ?_ ?_ _ | with_reducible refine Below.setCell ?_ ?_ _ | omega | (simp; done) | (simp; omega)))

end Go.Proofs.Ytpbfcpnenpcobaa
