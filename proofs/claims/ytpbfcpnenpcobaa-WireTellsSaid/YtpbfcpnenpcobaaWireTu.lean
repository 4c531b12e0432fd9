/-
  The walk of WireTurns.
-/
import Derived.Test.YtpbfcpnenpcobaaWireA
import Derived.Test.YtpbfcpnenpcobaaBare
import Derived.Test.YtpbfcpnenpcobaaSame
import Derived.Test.YtpbfcpnenpcobaaStr
import Derived.WalkKit
import Derived.WalkSpells
import Derived.WalkLawsBesides
import Derived.Lib.Hide
import Derived.Deep.LoopGhost
import Derived.Deep.QuietTactic
import Derived.BigQuiet
import Derived.Deep.RegionWith
import Derived.Handy
set_option linter.unusedSimpArgs false
set_option linter.unusedVariables false
namespace Go.Proofs.Ytpbfcpnenpcobaa
open Go.RowKit Go.St

/-- an order's block -/
def five (w : World) (b : Nat) (k n v : Int) (ra : Option Addr) (rl rc : Nat) (fa : Option Addr) (fl fc : Nat) : Prop :=
  w.cell? ⟨b, 0, none⟩ = some (.int .i64 k) ∧ w.cell? ⟨b, 1, none⟩ = some (.int .i64 n) ∧ w.cell? ⟨b, 2, none⟩ = some (.int .i64 v) ∧ w.cell? ⟨b, 3, none⟩ = some (.slice ra rl rc) ∧ w.cell? ⟨b, 4, none⟩ = some (.slice fa fl fc)

theorem five.keep {w w' : World} {b : Nat} {k n v : Int} {ra fa : Option Addr} {rl rc fl fc : Nat} (h : five w b k n v ra rl rc fa fl fc) {B : Nat} (hb : Below B w w') (hB : b < B) : five w' b k n v ra rl rc fa fl fc := by
  have e : ∀ i, w'.cell? ⟨b, i, none⟩ = w.cell? ⟨b, i, none⟩ := fun i => World.cell?_of_block (hb.block b hB)
  unfold five at *
  simp only [e]
  exact h

theorem five.lt {w : World} {b : Nat} {k n v : Int} {ra fa : Option Addr} {rl rc fl fc : Nat} (h : five w b k n v ra rl rc fa fl fc) : b < w.heap.size := by
  have := h.1
  unfold World.cell? at this
  cases hbk : w.heap[b]? with
  | none => simp [hbk] at this
  | some o => exact (Array.getElem?_eq_some_iff.1 hbk).1

def ST (b0 b1 : Nat) (k n v : Int) (ra : Option Addr) (rl rc : Nat) (fa : Option Addr) (fl fc : Nat) (k' n' v' : Int) (ra' : Option Addr) (rl' rc' : Nat) (fa' : Option Addr) (fl' fc' : Nat) (w : World) : Prop :=
  five w b0 k n v ra rl rc fa fl fc ∧ five w b1 k' n' v' ra' rl' rc' fa' fl' fc'

set_option maxRecDepth 100000 in
set_option maxHeartbeats 8000000 in
theorem wireTurns_c (w : World) (o : Order) (cs : List Value) (ok : Nat → Prop) (h : orderS.rep ok w cs o) (l : List Int) (al : Option Addr) (cl : Nat) (ok' : Nat → Prop) (hl : rowRep byteS ok' w al cl l) :
    Calls Try.prog 4 #[.agg cs.toArray, .slice al l.length cl] w fun e w' => e = .returned (.bool true) ∧ Below w.heap.size w w' := by
  have hbyte : ∀ x ∈ l, 0 ≤ x ∧ x ≤ 255 := by
    intro x hx
    obtain ⟨i, hi⟩ := List.getElem?_of_mem hx
    obtain ⟨_, _, _, _, _, _, ⟨_, h1⟩, _⟩ := hl.get hi
    exact h1
  obtain ⟨ra, rc, fa, fc, rfl, hio⟩ := id h
  go_enter Try.func4, Try.ntmps4
  go_wp2_with fail
  refine (alive_c _).mono ?_
  rintro e w1 ⟨rfl, hb1⟩
  have hB1 : Below w.heap.size w w1 := Below.trans (by (repeat' (first | with_reducible exact Below.refl _ _ | with_reducible assumption | with_reducible refine Below.drew ?_ | with_reducible refine Below_drewN ?_ _ | with_reducible refine Below.alloc ?_ ?_ _ | with_reducible refine Below.setCell ?_ ?_ _ | omega | (simp; done) | (simp; omega)))) (hb1.mono (by first | omega | (simp; done) | (simp; omega)))
  have hsz1 : w.heap.size < w1.heap.size := by have := hb1.size; simp at this; omega
  have h5 : five w1 w.heap.size o.kind o.num o.ver ra o.rules.length rc fa o.flows.length fc := by
    refine five.keep (B := w.heap.size + 1) (w := w.alloc (.cells #[.int .i64 o.kind, .int .i64 o.num, .int .i64 o.ver, .slice ra o.rules.length rc, .slice fa o.flows.length fc] 25)) ?_ (hb1.mono (by simp)) (by omega)
    unfold five
    simp [go_sem]
  obtain ⟨b0, b1, b2, b3, b4⟩ := id h5
  clear hb1
  have h1 := orderS.below h hB1
  go_wp2_with fail
  refine (bytes_c o _ _ _ h1).mono ?_
  rintro e w2 ⟨ao, cap, rfl, hr, hb2⟩
  have hB2 : Below w.heap.size w w2 := Below.trans hB1 (hb2.mono (by omega))
  have hs2 : w.heap.size < w2.heap.size := by have := hb2.size; omega
  have g5 := h5.keep hb2 (by omega)
  have hb12 := hb2
  clear b0 b1 b2 b3 b4 h h5 hb2
  by_cases hw : wireWrong o = 0
  case neg =>
    have hw' : (wireWrong o == 0) = false := by rw [beq_eq_false_iff_ne]; exact hw
    clear hw hr
    go_wp2_with fail
    clear h1 hio hw' g5 hB1 hsz1
    refine (parse_c l ok' al cl _ (hl.below hB2)).mono ?_
    rintro e w8 ⟨cs8, rfl, h8, hb8⟩
    have hB8 : Below w.heap.size w w8 := Below.trans hB2 (hb8.mono (by have := hB2.size; omega))
    have hz8 := hB8.size
    obtain ⟨ra8, rc8, fa8, fc8, rfl, j81, j82, j83, hr8, hf8⟩ := id h8
    by_cases hp : (parseAll l).2 = 0
    case neg =>
      have hp' : ((parseAll l).2 != 0) = true := by rw [bne_iff_ne]; exact hp
      have hz := parse_bad hp
      rw [hz] at h8 hr8 hf8 j81 j82 j83 ⊢
      clear hp hz hr8 hf8 j81 j82 j83
      go_wp2_with fail
      refine (sameOrder_c zeroO zeroO _ _ _ _ _ (orderS.below h8 (by (repeat' (first | with_reducible exact Below.refl _ _ | with_reducible assumption | with_reducible refine Below.drew ?_ | with_reducible refine Below_drewN ?_ _ | with_reducible refine Below.alloc ?_ ?_ _ | with_reducible refine Below.setCell ?_ ?_ _ | omega | (simp; done) | (simp; omega))))) (zeroO_rep (fun _ => True) _)).mono ?_
      rintro e w9 ⟨rfl, hb9⟩
      have hB9 : Below w.heap.size w w9 := Below.trans (by (repeat' (first | with_reducible exact Below.refl _ _ | with_reducible assumption | with_reducible refine Below.drew ?_ | with_reducible refine Below_drewN ?_ _ | with_reducible refine Below.alloc ?_ ?_ _ | with_reducible refine Below.setCell ?_ ?_ _ | omega | (simp; done) | (simp; omega)))) (hb9.mono (by have := hB8.size; simp; omega))
      rw [show decide (zeroO = zeroO) = true from decide_eq_true rfl]
      clear hb9 h8
      go_wp2
      go_ret; exact ⟨rfl, by (repeat' (first | with_reducible exact Below.refl _ _ | with_reducible assumption | with_reducible refine Below.drew ?_ | with_reducible refine Below_drewN ?_ _ | with_reducible refine Below.alloc ?_ ?_ _ | with_reducible refine Below.setCell ?_ ?_ _ | omega | (simp; done) | (simp; omega)))⟩
    obtain ⟨hpw, hpl⟩ := parse_parts hbyte hp
    rw [hp]
    clear hp hr8 hf8 j81 j82 j83
    generalize (parseAll l).1 = p at *
    go_wp2_with fail
    refine (bytes_c p _ _ _ (orderS.below h8 (by (repeat' (first | with_reducible exact Below.refl _ _ | with_reducible assumption | with_reducible refine Below.drew ?_ | with_reducible refine Below_drewN ?_ _ | with_reducible refine Below.alloc ?_ ?_ _ | with_reducible refine Below.setCell ?_ ?_ _ | omega | (simp; done) | (simp; omega)))))).mono ?_
    rw [hpl, hpw]
    rintro e w9 ⟨ao9, cap9, rfl, hr9, hb9⟩
    have hB9 : Below w.heap.size w w9 := Below.trans (by (repeat' (first | with_reducible exact Below.refl _ _ | with_reducible assumption | with_reducible refine Below.drew ?_ | with_reducible refine Below_drewN ?_ _ | with_reducible refine Below.alloc ?_ ?_ _ | with_reducible refine Below.setCell ?_ ?_ _ | omega | (simp; done) | (simp; omega)))) (hb9.mono (by have := hB8.size; simp; omega))
    have kc1 := row_string (P := Try.prog) Try.underlying26 Try.underlying5 Try.underlying9 hr9 (Below.refl _ _)
    have kc2 := row_string (P := Try.prog) Try.underlying26 Try.underlying5 Try.underlying9 (hl.below hB9) (Below.refl _ _)
    clear hb9 h8 hpl hpw hr9
    go_wp2
    go_ret; exact ⟨ret_bool (by simp), by (repeat' (first | with_reducible exact Below.refl _ _ | with_reducible assumption | with_reducible refine Below.drew ?_ | with_reducible refine Below_drewN ?_ _ | with_reducible refine Below.alloc ?_ ?_ _ | with_reducible refine Below.setCell ?_ ?_ _ | omega | (simp; done) | (simp; omega)))⟩
  have hpb := parse_bytes hw
  rw [hw]
  clear hw
  go_wp2_with fail
  refine (parse_c _ _ _ _ _ hr).mono ?_
  rw [hpb]
  rintro e w3 ⟨cs3, rfl, h3, hb3⟩
  have hb23 := hb3
  have hB3 : Below w.heap.size w w3 := Below.trans hB2 (hb3.mono (by omega))
  obtain ⟨ra3, rc3, fa3, fc3, rfl, j1, j2, j3, hr3, hf3⟩ := id h3
  have hsz3 : w.heap.size < w3.heap.size := by have := hb3.size; omega
  have k5 := g5.keep hb3 hs2
  clear g5 hb3 hpb hr
  dsimp only at *
  go_wp2_with fail
  have hT : ST w.heap.size w3.heap.size o.kind o.num o.ver ra o.rules.length rc fa o.flows.length fc (bareO o).kind (bareO o).num (bareO o).ver ra3 (bareO o).rules.length rc3 fa3 (bareO o).flows.length fc3 (w3.alloc (.cells #[.int .i64 (bareO o).kind, .int .i64 (bareO o).num, .int .i64 (bareO o).ver, .slice ra3 (bareO o).rules.length rc3, .slice fa3 (bareO o).flows.length fc3] 25)).drew := by
    refine ⟨k5.keep (B := w3.heap.size) (by (repeat' (first | with_reducible exact Below.refl _ _ | with_reducible assumption | with_reducible refine Below.drew ?_ | with_reducible refine Below_drewN ?_ _ | with_reducible refine Below.alloc ?_ ?_ _ | with_reducible refine Below.setCell ?_ ?_ _ | omega | (simp; done) | (simp; omega)))) hsz3, ?_⟩
    unfold five
    simp [go_sem]
  have h1' : ∀ w', Below w1.heap.size w1 w' → orderS.rep ok w' _ o := fun w' hb => orderS.below h1 hb
  have h3' : ∀ w', Below w3.heap.size w3 w' → orderS.rep (fun b => w2.heap.size ≤ b) w' _ (bareO o) := fun w' hb => orderS.below h3 hb
  have hB13 : Below w1.heap.size w1 w3 := (hb12.mono (Nat.le_refl _)).trans (hb23.mono (by have := hb12.size; omega))
  have hs13 := hB13.size
  refine wp_region_K (ST w.heap.size w3.heap.size o.kind o.num o.ver ra o.rules.length rc fa o.flows.length fc (bareO o).kind (bareO o).num (bareO o).ver ra3 (bareO o).rules.length rc3 fa3 (bareO o).flows.length fc3) 99 (by kernel_rfl) ?_
  have hS := hT
  refine wpAnyK_take' (i := 0) (.int .i64 0) rfl (by kernel_rfl) (fun _ _ _ h => h) hS (yields_value (by rfl) (by intro w0 hw0; have hw1 := hw0; simp only [ST, five] at hw1; go_simp)) ?_; simp only [Act.put, List.setIfInBounds_toArray, List.set_cons_succ, List.set_cons_zero]
  refine wpAnyK_take' (i := 1) (.bool false) rfl (by kernel_rfl) (fun _ _ _ h => h) hS (yields_value (by rfl) (by intro w0 hw0; have hw1 := hw0; simp only [ST, five] at hw1; go_simp)) ?_; simp only [Act.put, List.setIfInBounds_toArray, List.set_cons_succ, List.set_cons_zero]
  refine wpAnyK_take' (i := 2) (.bool false) rfl (by kernel_rfl) (fun _ _ _ h => h) hS (yields_value (by rfl) (by intro w0 hw0; have hw1 := hw0; simp only [ST, five] at hw1; go_simp)) ?_; simp only [Act.put, List.setIfInBounds_toArray, List.set_cons_succ, List.set_cons_zero]
  refine wpAnyK_take' (i := 3) (.agg #[.int .i64 (bareO o).kind, .int .i64 (bareO o).num, .int .i64 (bareO o).ver, .slice ra3 (bareO o).rules.length rc3, .slice fa3 (bareO o).flows.length fc3]) rfl (by kernel_rfl) (fun _ _ _ h => h) hS (yields_value (by rfl) (by intro w0 hw0; have hw1 := hw0; simp only [ST, five] at hw1; go_simp)) ?_; simp only [Act.put, List.setIfInBounds_toArray, List.set_cons_succ, List.set_cons_zero]
  refine wpAnyK_take' (i := 4) (.agg #[.int .i64 o.kind, .int .i64 o.num, .int .i64 o.ver, .slice ra o.rules.length rc, .slice fa o.flows.length fc]) rfl (by kernel_rfl) (fun _ _ _ h => h) hS (yields_value (by rfl) (by intro w0 hw0; have hw1 := hw0; simp only [ST, five] at hw1; go_simp)) ?_; simp only [Act.put, List.setIfInBounds_toArray, List.set_cons_succ, List.set_cons_zero]
  refine wpAnyK_call (i := 5) rfl (by rfl) (by kernel_rfl) fun K5 hK5 => ?_
  go_simp
  go_wp2_with fail
  refine (bare_c o _ ok _ (h1' _ (Below.trans hB13 (by (repeat' (first | with_reducible exact Below.refl _ _ | with_reducible assumption | with_reducible refine Below.drew ?_ | with_reducible refine Below_drewN ?_ _ | with_reducible refine Below.alloc ?_ ?_ _ | with_reducible refine Below.setCell ?_ ?_ _ | omega | (simp; done) | (simp; omega))))))).mono ?_
  rintro e w4 ⟨ds4, rfl, h4, hb4⟩
  have hS5 : ST w.heap.size w3.heap.size o.kind o.num o.ver ra o.rules.length rc fa o.flows.length fc (bareO o).kind (bareO o).num (bareO o).ver ra3 (bareO o).rules.length rc3 fa3 (bareO o).flows.length fc3 w4 := ⟨hT.1.keep hb4 (by simp; omega), hT.2.keep hb4 (by simp)⟩
  have hB34 : Below w3.heap.size w3 w4 := Below.trans (by (repeat' (first | with_reducible exact Below.refl _ _ | with_reducible assumption | with_reducible refine Below.drew ?_ | with_reducible refine Below_drewN ?_ _ | with_reducible refine Below.alloc ?_ ?_ _ | with_reducible refine Below.setCell ?_ ?_ _ | omega | (simp; done) | (simp; omega)))) (hb4.mono (by simp))
  have hs34 := hB34.size
  have hsz4 : w3.heap.size + 1 ≤ w4.heap.size := by have := hb4.size; simp at this; omega
  obtain ⟨r4a, r4b, r4c, r4d, rfl, _⟩ := id h4
  clear hS hT hb4
  have hS := hS5
  go_wp2_with fail
  refine hK5 _ _ (fun _ => hS) ?_
  clear hK5
  refine wpAnyK_call (i := 6) rfl (by rfl) (by kernel_rfl) fun K6 hK6 => ?_
  go_simp
  go_wp2_with fail
  refine (sameOrder_c (bareO o) (bareO o) _ _ _ _ _ (h3' _ hB34) h4).mono ?_
  rintro e w5 ⟨rfl, hb5⟩
  rw [show decide (bareO o = bareO o) = true from decide_eq_true rfl]
  have hS6 : ST w.heap.size w3.heap.size o.kind o.num o.ver ra o.rules.length rc fa o.flows.length fc (bareO o).kind (bareO o).num (bareO o).ver ra3 (bareO o).rules.length rc3 fa3 (bareO o).flows.length fc3 w5 := ⟨hS5.1.keep hb5 (by omega), hS5.2.keep hb5 (by omega)⟩
  have hB5 : Below w.heap.size w w5 := (hB3.trans (hB34.mono (by omega))).trans (hb5.mono (by omega))
  clear hS hS5 hb5 h4 hB34 h3 h3' h1'
  have hS := hS6
  go_wp2_with fail
  refine hK6 _ _ (fun _ => hS) ?_
  clear hK6
  refine wpAnyK_take' (i := 7) (.bool false) rfl (by kernel_rfl) (fun _ _ _ h => h) hS (yields_value (by rfl) (by intro w0 hw0; have hw1 := hw0; simp only [ST, five] at hw1; go_simp)) ?_; simp only [Act.put, List.setIfInBounds_toArray, List.set_cons_succ, List.set_cons_zero]
  refine wpAnyK_take' (i := 8) (.bool false) rfl (by kernel_rfl) (fun _ _ _ h => h) hS (yields_value (by rfl) (by intro w0 hw0; have hw1 := hw0; simp only [ST, five] at hw1; go_simp)) ?_; simp only [Act.put, List.setIfInBounds_toArray, List.set_cons_succ, List.set_cons_zero]
  refine wpAnyK_done (by kernel_rfl) ?_ _
  clear hS hS6 k5 hf3 hr3 j1 j2 j3 h1 hio hB13 hb12 hb23
  go_wp2_with fail
  refine (parse_c l ok' al cl _ (hl.below hB5)).mono ?_
  rintro e w8 ⟨cs8, rfl, h8, hb8⟩
  have hB8 : Below w.heap.size w w8 := Below.trans hB5 (hb8.mono (by have := hB5.size; omega))
  have hz8 := hB8.size
  obtain ⟨ra8, rc8, fa8, fc8, rfl, j81, j82, j83, hr8, hf8⟩ := id h8
  by_cases hp : (parseAll l).2 = 0
  case neg =>
    have hp' : ((parseAll l).2 != 0) = true := by rw [bne_iff_ne]; exact hp
    have hz := parse_bad hp
    rw [hz] at h8 hr8 hf8 j81 j82 j83 ⊢
    clear hp hz hr8 hf8 j81 j82 j83
    go_wp2_with fail
    refine (sameOrder_c zeroO zeroO _ _ _ _ _ (orderS.below h8 (by (repeat' (first | with_reducible exact Below.refl _ _ | with_reducible assumption | with_reducible refine Below.drew ?_ | with_reducible refine Below_drewN ?_ _ | with_reducible refine Below.alloc ?_ ?_ _ | with_reducible refine Below.setCell ?_ ?_ _ | omega | (simp; done) | (simp; omega))))) (zeroO_rep (fun _ => True) _)).mono ?_
    rintro e w9 ⟨rfl, hb9⟩
    have hB9 : Below w.heap.size w w9 := Below.trans (by (repeat' (first | with_reducible exact Below.refl _ _ | with_reducible assumption | with_reducible refine Below.drew ?_ | with_reducible refine Below_drewN ?_ _ | with_reducible refine Below.alloc ?_ ?_ _ | with_reducible refine Below.setCell ?_ ?_ _ | omega | (simp; done) | (simp; omega)))) (hb9.mono (by have := hB8.size; simp; omega))
    rw [show decide (zeroO = zeroO) = true from decide_eq_true rfl]
    clear hb9 h8
    go_wp2
    go_ret; exact ⟨rfl, by (repeat' (first | with_reducible exact Below.refl _ _ | with_reducible assumption | with_reducible refine Below.drew ?_ | with_reducible refine Below_drewN ?_ _ | with_reducible refine Below.alloc ?_ ?_ _ | with_reducible refine Below.setCell ?_ ?_ _ | omega | (simp; done) | (simp; omega)))⟩
  obtain ⟨hpw, hpl⟩ := parse_parts hbyte hp
  rw [hp]
  clear hp hr8 hf8 j81 j82 j83
  generalize (parseAll l).1 = p at *
  go_wp2_with fail
  refine (bytes_c p _ _ _ (orderS.below h8 (by (repeat' (first | with_reducible exact Below.refl _ _ | with_reducible assumption | with_reducible refine Below.drew ?_ | with_reducible refine Below_drewN ?_ _ | with_reducible refine Below.alloc ?_ ?_ _ | with_reducible refine Below.setCell ?_ ?_ _ | omega | (simp; done) | (simp; omega)))))).mono ?_
  rw [hpl, hpw]
  rintro e w9 ⟨ao9, cap9, rfl, hr9, hb9⟩
  have hB9 : Below w.heap.size w w9 := Below.trans (by (repeat' (first | with_reducible exact Below.refl _ _ | with_reducible assumption | with_reducible refine Below.drew ?_ | with_reducible refine Below_drewN ?_ _ | with_reducible refine Below.alloc ?_ ?_ _ | with_reducible refine Below.setCell ?_ ?_ _ | omega | (simp; done) | (simp; omega)))) (hb9.mono (by have := hB8.size; simp; omega))
  have kc1 := row_string (P := Try.prog) Try.underlying26 Try.underlying5 Try.underlying9 hr9 (Below.refl _ _)
  have kc2 := row_string (P := Try.prog) Try.underlying26 Try.underlying5 Try.underlying9 (hl.below hB9) (Below.refl _ _)
  clear hb9 h8 hpl hpw hr9
  go_wp2
  go_ret; exact ⟨ret_bool (by simp), by (repeat' (first | with_reducible exact Below.refl _ _ | with_reducible assumption | with_reducible refine Below.drew ?_ | with_reducible refine Below_drewN ?_ _ | with_reducible refine Below.alloc ?_ ?_ _ | with_reducible refine Below.setCell ?_ ?_ _ | omega | (simp; done) | (simp; omega)))⟩

end Go.Proofs.Ytpbfcpnenpcobaa
