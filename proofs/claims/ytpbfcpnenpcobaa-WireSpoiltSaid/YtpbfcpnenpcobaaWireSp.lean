/-
  The walk of WireSpoilt.
-/
import Derived.Test.YtpbfcpnenpcobaaWireA
import Derived.Test.YtpbfcpnenpcobaaPure
import Derived.WalkKit
import Derived.WalkSpells
import Derived.WalkLawsBesides
import Derived.Lib.Hide
import Derived.Deep.LoopGhost
import Derived.Deep.QuietTactic
import Derived.BigQuiet
import Derived.Deep.RegionWith
import Derived.Handy
set_option linter.unusedSimpArgs false
set_option linter.unusedVariables false
namespace Go.St
open Go.RowKit

theorem row_set {ok : Nat → Prop} {w : World} {g cap : Nat} {xs : List Int} (h : rowRep byteS ok w (some ⟨g, 0, none⟩) cap xs) {i : Nat} {x y : Int} (hi : xs[i]? = some x) (hy : 0 ≤ y ∧ y ≤ 255) :
    rowRep byteS ok (w.setCell ⟨g, i, none⟩ (.int .u8 y)) (some ⟨g, 0, none⟩) cap (xs.set i y) := by
  obtain ⟨b, off, hbo, hok, hlt, _⟩ := h.get hi
  obtain ⟨rfl, rfl⟩ : g = b ∧ 0 = off := by simpa using hbo
  refine ⟨by simpa using h.1, h.2.1, .inr ⟨g, 0, rfl, hok, by simpa [World.setCell] using hlt, ?_⟩⟩
  intro j z hj
  have hc : ∀ (k : Nat) (u : Int), xs[k]? = some u → w.cell? ⟨g, k, none⟩ = some (.int .u8 u) ∧ 0 ≤ u ∧ u ≤ 255 := by
    intro k u hk
    obtain ⟨b, off, hbo, _, _, cs, ⟨rfl, h1, h2⟩, hce⟩ := h.get hk
    obtain ⟨rfl, rfl⟩ : g = b ∧ 0 = off := by simpa using hbo
    have := hce 0 _ rfl
    simp only [byteS, Nat.zero_add, Nat.mul_one, Nat.add_zero] at this
    exact ⟨this, h1, h2⟩
  by_cases hij : i = j
  · subst hij
    have hil : i < xs.length := (List.getElem?_eq_some_iff.1 hi).1
    rw [List.getElem?_set_self hil] at hj
    cases hj
    refine ⟨[.int .u8 y], ⟨rfl, hy⟩, fun k c hk => ?_⟩
    cases k with
    | zero =>
      simp at hk
      subst hk
      simp only [byteS, Nat.zero_add, Nat.mul_one, Nat.add_zero]
      exact World.cell?_setCell_same w _ _ (hc i x hi).1
    | succ k => simp at hk
  · rw [List.getElem?_set_ne hij] at hj
    obtain ⟨h1, h2⟩ := hc j z hj
    refine ⟨[.int .u8 z], ⟨rfl, h2⟩, fun k c hk => ?_⟩
    cases k with
    | zero =>
      simp at hk
      subst hk
      simp only [byteS, Nat.zero_add, Nat.mul_one, Nat.add_zero]
      exact (World.cell?_setCell_other w _ _ _ (by simp [hij])).trans h1
    | succ k => simp at hk

theorem ownR.head {α : Type} {sh : Shape α} {e : TypeId} {ok : Nat → Prop} {base : Nat} {w : World} {ao : Option Addr} {n cap : Nat} {xs : List α} (h : ownR sh e ok base w ao n cap xs) (hn : 0 < n) :
    ∃ g, ao = some ⟨g, 0, none⟩ ∧ base ≤ g ∧ g < w.heap.size := by
  obtain ⟨cells, ⟨_, hc, _, ⟨rfl, h0⟩ | ⟨g, cur, rfl, hb, hg, _⟩⟩, _⟩ := h
  · omega
  · exact ⟨g, rfl, hb, (Array.getElem?_eq_some_iff.1 hg).1⟩

theorem ownR.thawed {α : Type} {sh : Shape α} {e : TypeId} {ok : Nat → Prop} {base : Nat} {w : World} {g n cap : Nat} {xs : List α} (h : ownR sh e ok base w (some ⟨g, 0, none⟩) n cap xs) (j : Nat) : w.frozen? ⟨g, j, none⟩ = false := by
  obtain ⟨cells, ⟨_, hc, _, ⟨h0, _⟩ | ⟨g', cur, hgg, hb, hg, _⟩⟩, _⟩ := h
  · cases h0
  · obtain rfl : g = g' := by simpa using hgg
    simp [World.frozen?, hg]

theorem xor_byte {x y : Int} (hx : 0 ≤ x ∧ x ≤ 255) (hy : 0 ≤ y ∧ y ≤ 255) (h : y ≠ 0) : (0 ≤ bits BinOp.xor IntKind.u8 x y ∧ bits BinOp.xor IntKind.u8 x y ≤ 255) ∧ x ≠ bits BinOp.xor IntKind.u8 x y := by
  have e : bits BinOp.xor IntKind.u8 x y = ((BitVec.ofInt 8 x ^^^ BitVec.ofInt 8 y).toNat : Int) := by
    show IntKind.u8.wrap ((BitVec.ofInt 8 x ^^^ BitVec.ofInt 8 y).toNat : Int) = _
    have := (BitVec.ofInt 8 x ^^^ BitVec.ofInt 8 y).isLt
    exact IntWalk.u8_in _ (by omega)
  rw [e]
  have hlt := (BitVec.ofInt 8 x ^^^ BitVec.ofInt 8 y).isLt
  refine ⟨by omega, fun he => h ?_⟩
  have e1 : BitVec.ofInt 8 x = BitVec.ofInt 8 x ^^^ BitVec.ofInt 8 y := by
    have := congrArg (BitVec.ofInt 8) he
    rwa [BitVec.ofInt_natCast, BitVec.ofNat_toNat, BitVec.setWidth_eq] at this
  have e2 : BitVec.ofInt 8 y = 0#8 := by
    have := congrArg (BitVec.ofInt 8 x ^^^ ·) e1
    simp only [← BitVec.xor_assoc, BitVec.xor_self, BitVec.zero_xor] at this
    exact this.symm
  have e3 := congrArg BitVec.toInt e2
  rw [BitVec.toInt_ofInt] at e3
  have e4 : (y.bmod (2 ^ 8)) = 0 := by simpa using e3
  rw [Int.bmod_def] at e4
  split at e4 <;> omega

theorem bytesOf_small {o : Order} (h : wireWrong o = 0) : (bytesOf o).length ≤ 40 := by
  have hb : bytesOf o = bodyB o ++ [sumB (bodyB o)] := by unfold bytesOf; rw [if_pos h]
  obtain ⟨_, h5⟩ := wrong_parts h
  rw [hb]
  unfold bodyB headB
  rcases h5 with ⟨hk, hl, _⟩ | ⟨hk, hl, _⟩ | hk
  · rw [if_pos hk]; simp [rulesB_len]; omega
  · rw [if_neg (by omega), if_pos hk]; simp; omega
  · rw [if_neg (by omega), if_neg (by omega)]; simp

end Go.St
namespace Go.Proofs.Ytpbfcpnenpcobaa
open Go.RowKit Go.St

set_option maxRecDepth 100000 in
set_option maxHeartbeats 4000000 in
theorem wireSpoilt_c (w : World) (o : Order) (cs : List Value) (ok : Nat → Prop) (h : orderS.rep ok w cs o) (i : Int) (hi64 : I64 i) (y : Int) (hy : 0 ≤ y ∧ y ≤ 255) :
    Calls Try.prog 5 #[.agg cs.toArray, .int .i64 i, .int .u8 y] w fun e w' => e = .returned (.bool true) ∧ Below w.heap.size w w' := by
  obtain ⟨ra, rc, fa, fc, rfl, hio⟩ := id h
  go_enter Try.func5, Try.ntmps5
  go_wp2_with fail
  refine (alive_c _).mono ?_
  rintro e w1 ⟨rfl, hb1⟩
  have hB1 : Below w.heap.size w w1 := Below.trans (by (repeat' (first | with_reducible exact Below.refl _ _ | with_reducible assumption | with_reducible refine Below.drew ?_ | with_reducible refine Below_drewN ?_ _ | with_reducible refine Below.alloc ?_ ?_ _ | with_reducible refine Below.setCell ?_ ?_ _ | omega | (simp; done) | (simp; omega)))) (hb1.mono (by first | omega | (simp; done) | (simp; omega)))
  have hsz1 : w.heap.size < w1.heap.size := by have := hb1.size; simp at this; omega
  have b0 : w1.cell? ⟨w.heap.size, 0, none⟩ = some (.int .i64 o.kind) := by rw [World.cell?_of_block (hb1.block w.heap.size (by simp))]; simp [go_sem]
  have b1 : w1.cell? ⟨w.heap.size, 1, none⟩ = some (.int .i64 o.num) := by rw [World.cell?_of_block (hb1.block w.heap.size (by simp))]; simp [go_sem]
  have b2 : w1.cell? ⟨w.heap.size, 2, none⟩ = some (.int .i64 o.ver) := by rw [World.cell?_of_block (hb1.block w.heap.size (by simp))]; simp [go_sem]
  have b3 : w1.cell? ⟨w.heap.size, 3, none⟩ = some (.slice ra o.rules.length rc) := by rw [World.cell?_of_block (hb1.block w.heap.size (by simp))]; simp [go_sem]
  have b4 : w1.cell? ⟨w.heap.size, 4, none⟩ = some (.slice fa o.flows.length fc) := by rw [World.cell?_of_block (hb1.block w.heap.size (by simp))]; simp [go_sem]
  clear hb1
  have h1 := orderS.below h hB1
  go_wp2_with fail
  refine (bytes_c o _ _ _ h1).mono ?_
  rintro e w2 ⟨ao, cap, rfl, hr, hb2⟩
  have hB2 : Below w.heap.size w w2 := Below.trans hB1 (hb2.mono (by omega))
  have hs2 : w.heap.size ≤ w2.heap.size := hB2.size
  clear b0 b1 b2 b3 b4 h h1 hb2
  by_cases hw : wireWrong o = 0
  case neg =>
    have hw' : (wireWrong o != 0) = true := by rw [bne_iff_ne]; exact hw
    clear hw
    go_wp2
    go_ret; exact ⟨rfl, by (repeat' (first | with_reducible exact Below.refl _ _ | with_reducible assumption | with_reducible refine Below.drew ?_ | with_reducible refine Below_drewN ?_ _ | with_reducible refine Below.alloc ?_ ?_ _ | with_reducible refine Below.setCell ?_ ?_ _ | omega | (simp; done) | (simp; omega)))⟩
  have hsm := bytesOf_small hw
  have hsp := @spoilt o hw
  have hby := body_byte hw
  rw [hw]
  clear hw
  generalize bytesOf o = l at *
  by_cases hi0 : i < 0
  · go_wp2
    go_ret; exact ⟨rfl, by (repeat' (first | with_reducible exact Below.refl _ _ | with_reducible assumption | with_reducible refine Below.drew ?_ | with_reducible refine Below_drewN ?_ _ | with_reducible refine Below.alloc ?_ ?_ _ | with_reducible refine Below.setCell ?_ ?_ _ | omega | (simp; done) | (simp; omega)))⟩
  have hi0' : 0 ≤ i := by omega
  obtain ⟨j, rfl⟩ := Int.eq_ofNat_of_zero_le hi0'
  clear hi0 hi0'
  by_cases hjl : j < l.length
  case neg =>
    have hge : (l.length : Int) ≤ (j : Int) := by omega
    clear hjl
    go_wp2
    go_ret; exact ⟨rfl, by (repeat' (first | with_reducible exact Below.refl _ _ | with_reducible assumption | with_reducible refine Below.drew ?_ | with_reducible refine Below_drewN ?_ _ | with_reducible refine Below.alloc ?_ ?_ _ | with_reducible refine Below.setCell ?_ ?_ _ | omega | (simp; done) | (simp; omega)))⟩
  by_cases hy0 : y = 0
  · subst hy0
    have hge : ¬ (l.length : Int) ≤ (j : Int) := by omega
    go_wp2
    go_ret; exact ⟨rfl, by (repeat' (first | with_reducible exact Below.refl _ _ | with_reducible assumption | with_reducible refine Below.drew ?_ | with_reducible refine Below_drewN ?_ _ | with_reducible refine Below.alloc ?_ ?_ _ | with_reducible refine Below.setCell ?_ ?_ _ | omega | (simp; done) | (simp; omega)))⟩
  have hge : ¬ (l.length : Int) ≤ (j : Int) := by omega
  have hy0' : (y == 0) = false := by rw [beq_eq_false_iff_ne]; exact hy0
  have hgt := List.getElem?_eq_getElem hjl
  have hxb := hby _ (List.getElem_mem hjl)
  obtain ⟨x1, x2⟩ := xor_byte hxb hy hy0
  have hfin := hsp hgt x1 x2
  clear hsp hby hy0
  obtain ⟨i0, hi, hz0, hz1, hz2⟩ := info_parts info_u8
  clear hio
  have hown : ownR byteS 5 (fun _ => False) w.heap.size (w2.alloc (.cells (([] : List Int).map (Value.int .u8)).toArray 5)) (some ⟨w2.heap.size, 0, none⟩) 0 0 [] := ownR.bytes [] (by simp) (by omega) (by simp)
  have hlen : l.length ≤ 40 := hsm
  have j0 : (0 : Int) ≤ (j : Int) := by omega
  have j1 : (j : Int) < (l.length : Int) := by omega
  clear hge
  go_wp2_with (at_builtin; go_must (refine wpList_appR (sh := byteS) rfl _ _ 26 rfl 5 i0 (.int .u8 0) 1 Try.underlying26 hi hz0 hz1 hz2 rfl (by decide) rfl hown rfl rfl ((hr.below (by (repeat' (first | with_reducible exact Below.refl _ _ | with_reducible assumption | with_reducible refine Below.drew ?_ | with_reducible refine Below_drewN ?_ _ | with_reducible refine Below.alloc ?_ ?_ _ | with_reducible refine Below.setCell ?_ ?_ _ | omega | (simp; done) | (simp; omega))))).src) (by simp only [maxLen]; omega) (by omega) (by first | omega | (simp; done) | (simp; omega)) ?_); go_must (
    intro ao1 cap1 w3 hown1 hg1 _
    have hb2 := grown_below (B := w.heap.size) hg1 (fun k hk => (hown.lt k hk).1) (by first | omega | (simp; done) | (simp; omega))
    rw [List.nil_append, Nat.zero_add] at hown1
    obtain ⟨g, rfl, hg0, hg2⟩ := hown1.head (by omega)
    have hrow : rowRep byteS (fun _ => True) w3 (some ⟨g, 0, none⟩) cap1 l := hown1.row (fun _ h => h.elim) (fun _ _ => trivial)
    have hB3 : Below w.heap.size w w3 := Below.trans (by (repeat' (first | with_reducible exact Below.refl _ _ | with_reducible assumption | with_reducible refine Below.drew ?_ | with_reducible refine Below_drewN ?_ _ | with_reducible refine Below.alloc ?_ ?_ _ | with_reducible refine Below.setCell ?_ ?_ _ | omega | (simp; done) | (simp; omega)))) (hb2.mono (by omega))
    obtain ⟨b', off', hbo, _, _, cs', ⟨rfl, _⟩, hce⟩ := hrow.get hgt
    obtain ⟨rfl, rfl⟩ : g = b' ∧ 0 = off' := by simpa using hbo
    have e0 := hce 0 _ rfl
    simp only [byteS, Nat.zero_add, Nat.mul_one, Nat.add_zero] at e0
    have hnew := row_set hrow hgt x1
    have hfz := hown1.thawed j
    clear hce hbo hown1 hown hg1 hb2 hr hrow hxb))
  have hlen2 : Hid ((l.set j (bits BinOp.xor IntKind.u8 l[j] y)).length = l.length) := Lib.hid (by simp)
  rw [← hlen2.out]
  have hB4 : Below w.heap.size w (w3.setCell ⟨g, j, none⟩ (.int .u8 (bits BinOp.xor IntKind.u8 l[j] y))) := by (repeat' (first | with_reducible exact Below.refl _ _ | with_reducible assumption | with_reducible refine Below.drew ?_ | with_reducible refine Below_drewN ?_ _ | with_reducible refine Below.alloc ?_ ?_ _ | with_reducible refine Below.setCell ?_ ?_ _ | omega | (simp; done) | (simp; omega)))
  refine (parse_c _ (fun _ => True) _ cap1 _ hnew).mono ?_
  rintro e w5 ⟨cs5, rfl, _, hb5⟩
  have hB5 : Below w.heap.size w w5 := Below.trans hB4 (hb5.mono (by have := hB4.size; omega))
  rw [hfin]
  clear hb5 hB4 hnew e0
  go_wp2
  go_ret; exact ⟨rfl, by (repeat' (first | with_reducible exact Below.refl _ _ | with_reducible assumption | with_reducible refine Below.drew ?_ | with_reducible refine Below_drewN ?_ _ | with_reducible refine Below.alloc ?_ ?_ _ | with_reducible refine Below.setCell ?_ ?_ _ | omega | (simp; done) | (simp; omega)))⟩

end Go.Proofs.Ytpbfcpnenpcobaa
