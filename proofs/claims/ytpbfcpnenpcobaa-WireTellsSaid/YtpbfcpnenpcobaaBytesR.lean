/-
  The walk of the document's Bytes.
-/
import Derived.Test.YtpbfcpnenpcobaaBytesW
set_option linter.unusedSimpArgs false
set_option linter.unusedVariables false
namespace Go.Proofs.Ytpbfcpnenpcobaa
open Go.RowKit Go.St

set_option maxHeartbeats 1000000 in
theorem refBytes_bad (o : Order) (cs : List Value) (ok : Nat → Prop) (w : World) (h : orderS.rep ok w cs o) (hw : wireWrong o ≠ 0) :
    Calls Try.prog 11 #[.agg cs.toArray] w fun e w' => e = .returned (.tuple #[.slice none 0 0, .int .i64 (wireWrong o)]) ∧ Below w.heap.size w w' := by
  obtain ⟨ra, rc, fa, fc, rfl, hk⟩ := id h
  have hw' : (wireWrong o == 0) = false := by rw [beq_eq_false_iff_ne]; exact hw
  clear hw
  go_enter Try.func11, Try.ntmps11
  go_wp2_with fail
  refine (refWrong_c o _ ok _ (orderS.below h (by (repeat' (first | with_reducible exact Below.refl _ _ | with_reducible assumption | with_reducible refine Below.drew ?_ | with_reducible refine Below_drewN ?_ _ | with_reducible refine Below.alloc ?_ ?_ _ | with_reducible refine Below.setCell ?_ ?_ _ | omega | (simp; done) | (simp; omega)))))).mono ?_
  rintro e w1 ⟨rfl, hb1⟩
  have hB : Below w.heap.size w w1 := Below.trans (by (repeat' (first | with_reducible exact Below.refl _ _ | with_reducible assumption | with_reducible refine Below.drew ?_ | with_reducible refine Below_drewN ?_ _ | with_reducible refine Below.alloc ?_ ?_ _ | with_reducible refine Below.setCell ?_ ?_ _ | omega | (simp; done) | (simp; omega)))) (hb1.mono (by first | omega | (simp; done) | (simp; omega)))
  clear hb1 h hk
  go_wp2
  go_ret2
  exact ⟨rfl, by (repeat' (first | with_reducible exact Below.refl _ _ | with_reducible assumption | with_reducible refine Below.drew ?_ | with_reducible refine Below_drewN ?_ _ | with_reducible refine Below.alloc ?_ ?_ _ | with_reducible refine Below.setCell ?_ ?_ _ | omega | (simp; done) | (simp; omega)))⟩

set_option maxHeartbeats 2000000 in
theorem refBytes_add (n v : Int) (ra fa : Option Addr) (rc fc fl : Nat) (rs : List Rule) (fs : List Int) (ok : Nat → Prop) (w : World)
    (h : orderS.rep ok w [.int .i64 1, .int .i64 n, .int .i64 v, .slice ra rs.length rc, .slice fa fl fc] ⟨1, n, v, rs, fs⟩) (hr : rowRep ruleS ok w ra rc rs) (HW : Hid (wireWrong ⟨1, n, v, rs, fs⟩ = 0))
    (hn1 : 1 ≤ n) (hn2 : n ≤ 100000) (hv1 : 1 ≤ v) (hv2 : v ≤ 1000) (hl : rs.length ≤ 16) (HA : Hid (rs.all (ruleOk v) = true)) :
    Calls Try.prog 11 #[.agg #[.int .i64 1, .int .i64 n, .int .i64 v, .slice ra rs.length rc, .slice fa fl fc]] w fun e w' => ∃ ao cap L, e = .returned (.tuple #[.slice ao L cap, .int .i64 0]) ∧ ownR byteS 5 (fun _ => False) w.heap.size w' ao L cap ((preB n v 1 rs.length ++ rulesB rs) ++ [sumB (preB n v 1 rs.length ++ rulesB rs)]) ∧ Below w.heap.size w w' := by
  obtain ⟨i0, hi, hz0, hz1, hz2⟩ := info_parts info_u8
  go_enter Try.func11, Try.ntmps11
  go_wp2_with fail
  refine (refWrong_c _ _ ok _ (orderS.below h (by (repeat' (first | with_reducible exact Below.refl _ _ | with_reducible assumption | with_reducible refine Below.drew ?_ | with_reducible refine Below_drewN ?_ _ | with_reducible refine Below.alloc ?_ ?_ _ | with_reducible refine Below.setCell ?_ ?_ _ | omega | (simp; done) | (simp; omega)))))).mono ?_
  rintro e w1 ⟨rfl, hb1⟩
  rw [HW.out]
  obtain ⟨q1, q2⟩ := bcell hb1
  have hB : Below w.heap.size w w1 := Below.trans (by (repeat' (first | with_reducible exact Below.refl _ _ | with_reducible assumption | with_reducible refine Below.drew ?_ | with_reducible refine Below_drewN ?_ _ | with_reducible refine Below.alloc ?_ ?_ _ | with_reducible refine Below.setCell ?_ ?_ _ | omega | (simp; done) | (simp; omega)))) (hb1.mono (by first | omega | (simp; done) | (simp; omega)))
  have hs1 : w.heap.size < w1.heap.size := by have := hb1.size; simp at this; omega
  have hown : ownR byteS 5 (fun _ => False) (w.heap.size + 1) (w1.alloc (.cells #[.int .u8 1, .int .u8 (n / 65536), .int .u8 (n / 256 % 256), .int .u8 (n % 256), .int .u8 (v / 256), .int .u8 (v % 256)] 5)) (some ⟨w1.heap.size, 0, none⟩) 6 6 [1, n / 65536, n / 256 % 256, n % 256, v / 256, v % 256] :=
    ownR.bytes [1, n / 65536, n / 256 % 256, n % 256, v / 256, v % 256] (fun x hx => preB_byte hn1 hn2 hv1 hv2 (by omega) (by omega) (Int.le_refl 0) (by omega) (l := 0) (k := 1) x (by simp only [preB, List.mem_cons, List.not_mem_nil, or_false] at hx ⊢; omega)) (by omega) (by simp [maxLen])
  have hby : ∀ x ∈ [(rs.length : Int)], isByte x := by intro x hx; simp only [List.mem_cons, List.not_mem_nil, or_false] at hx; unfold isByte; omega
  clear hb1 h
  go_wp2_with (at_builtin; go_must (refine wpList_appR (sh := byteS) rfl _ _ 26 rfl 5 i0 (.int .u8 0) 1 Try.underlying26 hi hz0 hz1 hz2 rfl (by decide) rfl (hown.alloc _) rfl rfl (srcRep.bytes [(rs.length : Int)] (by simp) hby) (by simp only [maxLen]; omega) (by omega) (by first | omega | (simp; done) | (simp; omega)) ?_); go_must (intro ao1 cap1 w2 hown1 hg1 _; have hb2 := grown_below (B := w.heap.size + 1) hg1 (fun k hk => (hown.lt k hk).1) (by first | omega | (simp; done) | (simp; omega)); obtain ⟨q3, q4⟩ := bcellB hb2))
  have hB2 : Below w.heap.size w w2 := Below.trans (by (repeat' (first | with_reducible exact Below.refl _ _ | with_reducible assumption | with_reducible refine Below.drew ?_ | with_reducible refine Below_drewN ?_ _ | with_reducible refine Below.alloc ?_ ?_ _ | with_reducible refine Below.setCell ?_ ?_ _ | omega | (simp; done) | (simp; omega)))) (hb2.mono (by omega))
  have hs2 : w.heap.size < w2.heap.size := by have := hb2.size; simp at this; omega
  have hc2 : w2.cell? ⟨w.heap.size, 0, none⟩ = some (.int .i64 1) := by go_simp
  clear q1 q2 q3 q4 hb2 hg1 hown hby
  go_loopw [5, 53] (fun b i wr => ∃ (j : Nat) (ao : Option Addr) (L cap : Nat), j ≤ rs.length ∧ i = .int .i64 j ∧ b = .slice ao L cap ∧ ownR byteS 5 (fun _ => False) (w.heap.size + 1) wr ao L cap (preB n v 1 rs.length ++ rulesB (rs.take j)) ∧ Below w.heap.size w wr ∧ w.heap.size < wr.heap.size ∧ wr.cell? ⟨w.heap.size, 0, none⟩ = some (.int .i64 1)) (fun _ i _ => rs.length - (intOf i).toNat)
  case atStart => exact ⟨0, ao1, _, cap1, Nat.zero_le _, rfl, rfl, by simpa [rulesB, preB] using hown1, hB2, hs2, hc2⟩
  case round =>
    obtain ⟨j, ao, L, cap, hj, rfl, rfl, hown, hb, hsz, hc0⟩ := hrel
    have hLb : L ≤ 100 := by
      rw [hown.len_eq, List.length_append, rulesB_len, List.length_take]; simp only [preB, List.length_cons, List.length_nil]; omega
    by_cases hlt : j < rs.length
    · obtain ⟨b, off, rfl, _, hbl, cs, hcs, hce⟩ := hr.get (List.getElem?_eq_getElem hlt)
      obtain ⟨rfl, hi1, hi2, hi3⟩ := hcs
      have e0 := cell_at hb hbl (hce 0 _ rfl)
      have e1 := cell_at hb hbl (hce 1 _ rfl)
      have e2 := cell_at hb hbl (hce 2 _ rfl)
      clear hce
      simp only [ruleS, Nat.add_zero] at e0 e1 e2
      obtain ⟨f1, f2, f3, f4⟩ := rule_in HA.out hlt
      have hby : ∀ x ∈ [rs[j].flow, rs[j].next], isByte x := by intro x hx; simp only [List.mem_cons, List.not_mem_nil, or_false] at hx; unfold isByte; omega
      have hX : Hid (preB n v 1 rs.length ++ rulesB (rs.take (j + 1)) = (preB n v 1 rs.length ++ rulesB (rs.take j)) ++ [rs[j].flow, rs[j].next]) := by show _ = _; rw [rulesB_snoc hlt, List.append_assoc]
      go_wp2_with (at_builtin; go_must (refine wpList_appR (sh := byteS) rfl _ _ 26 rfl 5 i0 (.int .u8 0) 1 Try.underlying26 hi hz0 hz1 hz2 rfl (by decide) rfl ((hown.alloc _).alloc _) rfl rfl (srcRep.bytes [rs[j].flow, rs[j].next] (by simp) hby) (by simp only [maxLen]; omega) (by omega) (by first | omega | (simp; done) | (simp; omega)) ?_); go_must (intro ao1 cap1 w2 hown1 hg1 _; have hb2 := grown_below (B := w.heap.size + 1) hg1 (fun k hk => (hown.lt k hk).1) (by first | omega | (simp; done) | (simp; omega)); obtain ⟨q3, q4⟩ := bcellB hb2))
      go_roundw
      case rel => exact ⟨j + 1, ao1, _, cap1, by omega, by go_num, rfl, hX.out ▸ hown1, Below.trans (by (repeat' (first | with_reducible exact Below.refl _ _ | with_reducible assumption | with_reducible refine Below.drew ?_ | with_reducible refine Below_drewN ?_ _ | with_reducible refine Below.alloc ?_ ?_ _ | with_reducible refine Below.setCell ?_ ?_ _ | omega | (simp; done) | (simp; omega)))) (hb2.mono (by omega)), by have := hb2.size; simp at this; omega, by go_simp⟩
      case measure => simp [intOf]; omega
    · have hjl : rs.take j = rs := List.take_of_length_le (by omega)
      rw [hjl] at hown
      clear hjl
      obtain rfl := hown.len_eq
      obtain ⟨s1, s2⟩ := sumB_range (preB n v 1 rs.length ++ rulesB rs)
      have hrow : rowRep byteS (fun _ => True) wr ao cap (preB n v 1 rs.length ++ rulesB rs) := hown.row (fun _ h => h.elim) (fun _ _ => trivial)
      generalize hG : preB n v 1 rs.length ++ rulesB rs = X at *
      have HG := Lib.hid hG
      clear hG
      go_wp2_with fail
      refine (refSum_c X (fun _ => True) ao cap _ hrow).mono ?_
      rintro e w3 ⟨rfl, rfl⟩
      have hby : ∀ x ∈ [sumB X], isByte x := by intro x hx; simp only [List.mem_cons, List.not_mem_nil, or_false] at hx; unfold isByte; omega
      clear hrow
      go_wp2_with (at_builtin; go_must (refine wpList_appR (sh := byteS) rfl _ _ 26 rfl 5 i0 (.int .u8 0) 1 Try.underlying26 hi hz0 hz1 hz2 rfl (by decide) rfl (hown.alloc _) rfl rfl (srcRep.bytes [sumB X] (by simp) hby) (by simp only [maxLen]; omega) (by omega) (by first | omega | (simp; done) | (simp; omega)) ?_); go_must (intro ao1 cap1 w2 hown1 hg1 _; have hb2 := grown_below (B := w.heap.size + 1) hg1 (fun k hk => (hown.lt k hk).1) (by first | omega | (simp; done) | (simp; omega)); obtain ⟨q3, q4⟩ := bcellB hb2))
      go_ret2
      exact ⟨ao1, cap1, _, rfl, by rw [HG.out]; exact hown1.base (Nat.le_succ _), Below.trans (by (repeat' (first | with_reducible exact Below.refl _ _ | with_reducible assumption | with_reducible refine Below.drew ?_ | with_reducible refine Below_drewN ?_ _ | with_reducible refine Below.alloc ?_ ?_ _ | with_reducible refine Below.setCell ?_ ?_ _ | omega | (simp; done) | (simp; omega)))) (hb2.mono (by omega))⟩
set_option maxHeartbeats 2000000 in
theorem refBytes_stamp (n v : Int) (ra fa : Option Addr) (rc fc rl : Nat) (rs : List Rule) (fs : List Int) (ok : Nat → Prop) (w : World)
    (h : orderS.rep ok w [.int .i64 2, .int .i64 n, .int .i64 v, .slice ra rl rc, .slice fa fs.length fc] ⟨2, n, v, rs, fs⟩) (hr : rowRep intS ok w fa fc fs) (HW : Hid (wireWrong ⟨2, n, v, rs, fs⟩ = 0))
    (hn1 : 1 ≤ n) (hn2 : n ≤ 100000) (hv1 : 1 ≤ v) (hv2 : v ≤ 1000) (hl : fs.length ≤ 12) (HA : Hid (flowsOk (-1) fs = true)) :
    Calls Try.prog 11 #[.agg #[.int .i64 2, .int .i64 n, .int .i64 v, .slice ra rl rc, .slice fa fs.length fc]] w fun e w' => ∃ ao cap L, e = .returned (.tuple #[.slice ao L cap, .int .i64 0]) ∧ ownR byteS 5 (fun _ => False) w.heap.size w' ao L cap ((preB n v 2 fs.length ++ fs) ++ [sumB (preB n v 2 fs.length ++ fs)]) ∧ Below w.heap.size w w' := by
  obtain ⟨i0, hi, hz0, hz1, hz2⟩ := info_parts info_u8
  go_enter Try.func11, Try.ntmps11
  go_wp2_with fail
  refine (refWrong_c _ _ ok _ (orderS.below h (by (repeat' (first | with_reducible exact Below.refl _ _ | with_reducible assumption | with_reducible refine Below.drew ?_ | with_reducible refine Below_drewN ?_ _ | with_reducible refine Below.alloc ?_ ?_ _ | with_reducible refine Below.setCell ?_ ?_ _ | omega | (simp; done) | (simp; omega)))))).mono ?_
  rintro e w1 ⟨rfl, hb1⟩
  rw [HW.out]
  obtain ⟨q1, q2⟩ := bcell hb1
  have hB : Below w.heap.size w w1 := Below.trans (by (repeat' (first | with_reducible exact Below.refl _ _ | with_reducible assumption | with_reducible refine Below.drew ?_ | with_reducible refine Below_drewN ?_ _ | with_reducible refine Below.alloc ?_ ?_ _ | with_reducible refine Below.setCell ?_ ?_ _ | omega | (simp; done) | (simp; omega)))) (hb1.mono (by first | omega | (simp; done) | (simp; omega)))
  have hs1 : w.heap.size < w1.heap.size := by have := hb1.size; simp at this; omega
  have hown : ownR byteS 5 (fun _ => False) (w.heap.size + 1) (w1.alloc (.cells #[.int .u8 2, .int .u8 (n / 65536), .int .u8 (n / 256 % 256), .int .u8 (n % 256), .int .u8 (v / 256), .int .u8 (v % 256)] 5)) (some ⟨w1.heap.size, 0, none⟩) 6 6 [2, n / 65536, n / 256 % 256, n % 256, v / 256, v % 256] :=
    ownR.bytes [2, n / 65536, n / 256 % 256, n % 256, v / 256, v % 256] (fun x hx => preB_byte hn1 hn2 hv1 hv2 (by omega) (by omega) (Int.le_refl 0) (by omega) (l := 0) (k := 2) x (by simp only [preB, List.mem_cons, List.not_mem_nil, or_false] at hx ⊢; omega)) (by omega) (by simp [maxLen])
  have hby : ∀ x ∈ [(fs.length : Int)], isByte x := by intro x hx; simp only [List.mem_cons, List.not_mem_nil, or_false] at hx; unfold isByte; omega
  clear hb1 h
  go_wp2_with (at_builtin; go_must (refine wpList_appR (sh := byteS) rfl _ _ 26 rfl 5 i0 (.int .u8 0) 1 Try.underlying26 hi hz0 hz1 hz2 rfl (by decide) rfl (hown.alloc _) rfl rfl (srcRep.bytes [(fs.length : Int)] (by simp) hby) (by simp only [maxLen]; omega) (by omega) (by first | omega | (simp; done) | (simp; omega)) ?_); go_must (intro ao1 cap1 w2 hown1 hg1 _; have hb2 := grown_below (B := w.heap.size + 1) hg1 (fun k hk => (hown.lt k hk).1) (by first | omega | (simp; done) | (simp; omega)); obtain ⟨q3, q4⟩ := bcellB hb2))
  have hB2 : Below w.heap.size w w2 := Below.trans (by (repeat' (first | with_reducible exact Below.refl _ _ | with_reducible assumption | with_reducible refine Below.drew ?_ | with_reducible refine Below_drewN ?_ _ | with_reducible refine Below.alloc ?_ ?_ _ | with_reducible refine Below.setCell ?_ ?_ _ | omega | (simp; done) | (simp; omega)))) (hb2.mono (by omega))
  have hs2 : w.heap.size < w2.heap.size := by have := hb2.size; simp at this; omega
  have hc2 : w2.cell? ⟨w.heap.size, 0, none⟩ = some (.int .i64 2) := by go_simp
  clear q1 q2 q3 q4 hb2 hg1 hown hby
  go_loopw [5, 80] (fun b i wr => ∃ (j : Nat) (ao : Option Addr) (L cap : Nat), j ≤ fs.length ∧ i = .int .i64 j ∧ b = .slice ao L cap ∧ ownR byteS 5 (fun _ => False) (w.heap.size + 1) wr ao L cap (preB n v 2 fs.length ++ fs.take j) ∧ Below w.heap.size w wr ∧ w.heap.size < wr.heap.size ∧ wr.cell? ⟨w.heap.size, 0, none⟩ = some (.int .i64 2)) (fun _ i _ => fs.length - (intOf i).toNat)
  case atStart => exact ⟨0, ao1, _, cap1, Nat.zero_le _, rfl, rfl, by simpa [preB] using hown1, hB2, hs2, hc2⟩
  case round =>
    obtain ⟨j, ao, L, cap, hj, rfl, rfl, hown, hb, hsz, hc0⟩ := hrel
    have hLb : L ≤ 100 := by
      rw [hown.len_eq, List.length_append, List.length_take]; simp only [preB, List.length_cons, List.length_nil]; omega
    by_cases hlt : j < fs.length
    · obtain ⟨b, off, rfl, _, hbl, cs, hcs, hce⟩ := hr.get (List.getElem?_eq_getElem hlt)
      obtain ⟨rfl, hi1⟩ := hcs
      have e0 := cell_at hb hbl (hce 0 _ rfl)
      clear hce
      simp only [intS, Nat.add_zero, Nat.mul_one] at e0
      obtain ⟨f1, f2⟩ := flow_in HA.out hlt
      have hby : ∀ x ∈ [fs[j]], isByte x := by intro x hx; simp only [List.mem_cons, List.not_mem_nil, or_false] at hx; unfold isByte; omega
      have hX : Hid (preB n v 2 fs.length ++ fs.take (j + 1) = (preB n v 2 fs.length ++ fs.take j) ++ [fs[j]]) := by show _ = _; rw [take_snoc hlt, List.append_assoc]
      go_wp2_with (at_builtin; go_must (refine wpList_appR (sh := byteS) rfl _ _ 26 rfl 5 i0 (.int .u8 0) 1 Try.underlying26 hi hz0 hz1 hz2 rfl (by decide) rfl (hown.alloc _) rfl rfl (srcRep.bytes [fs[j]] (by simp) hby) (by simp only [maxLen]; omega) (by omega) (by first | omega | (simp; done) | (simp; omega)) ?_); go_must (intro ao1 cap1 w2 hown1 hg1 _; have hb2 := grown_below (B := w.heap.size + 1) hg1 (fun k hk => (hown.lt k hk).1) (by first | omega | (simp; done) | (simp; omega)); obtain ⟨q3, q4⟩ := bcellB hb2))
      go_roundw
      case rel => exact ⟨j + 1, ao1, _, cap1, by omega, by go_num, rfl, hX.out ▸ hown1, Below.trans (by (repeat' (first | with_reducible exact Below.refl _ _ | with_reducible assumption | with_reducible refine Below.drew ?_ | with_reducible refine Below_drewN ?_ _ | with_reducible refine Below.alloc ?_ ?_ _ | with_reducible refine Below.setCell ?_ ?_ _ | omega | (simp; done) | (simp; omega)))) (hb2.mono (by omega)), by have := hb2.size; simp at this; omega, by go_simp⟩
      case measure => simp [intOf]; omega
    · have hjl : fs.take j = fs := List.take_of_length_le (by omega)
      rw [hjl] at hown
      clear hjl
      obtain rfl := hown.len_eq
      obtain ⟨s1, s2⟩ := sumB_range (preB n v 2 fs.length ++ fs)
      have hrow : rowRep byteS (fun _ => True) wr ao cap (preB n v 2 fs.length ++ fs) := hown.row (fun _ h => h.elim) (fun _ _ => trivial)
      generalize hG : preB n v 2 fs.length ++ fs = X at *
      have HG := Lib.hid hG
      clear hG
      go_wp2_with fail
      refine (refSum_c X (fun _ => True) ao cap _ hrow).mono ?_
      rintro e w3 ⟨rfl, rfl⟩
      have hby : ∀ x ∈ [sumB X], isByte x := by intro x hx; simp only [List.mem_cons, List.not_mem_nil, or_false] at hx; unfold isByte; omega
      clear hrow
      go_wp2_with (at_builtin; go_must (refine wpList_appR (sh := byteS) rfl _ _ 26 rfl 5 i0 (.int .u8 0) 1 Try.underlying26 hi hz0 hz1 hz2 rfl (by decide) rfl (hown.alloc _) rfl rfl (srcRep.bytes [sumB X] (by simp) hby) (by simp only [maxLen]; omega) (by omega) (by first | omega | (simp; done) | (simp; omega)) ?_); go_must (intro ao1 cap1 w2 hown1 hg1 _; have hb2 := grown_below (B := w.heap.size + 1) hg1 (fun k hk => (hown.lt k hk).1) (by first | omega | (simp; done) | (simp; omega)); obtain ⟨q3, q4⟩ := bcellB hb2))
      go_ret2
      exact ⟨ao1, cap1, _, rfl, by rw [HG.out]; exact hown1.base (Nat.le_succ _), Below.trans (by (repeat' (first | with_reducible exact Below.refl _ _ | with_reducible assumption | with_reducible refine Below.drew ?_ | with_reducible refine Below_drewN ?_ _ | with_reducible refine Below.alloc ?_ ?_ _ | with_reducible refine Below.setCell ?_ ?_ _ | omega | (simp; done) | (simp; omega)))) (hb2.mono (by omega))⟩
set_option maxHeartbeats 2000000 in
theorem refBytes_drop (n v : Int) (ra fa : Option Addr) (rc fc rl fl : Nat) (rs : List Rule) (fs : List Int) (ok : Nat → Prop) (w : World)
    (h : orderS.rep ok w [.int .i64 3, .int .i64 n, .int .i64 v, .slice ra rl rc, .slice fa fl fc] ⟨3, n, v, rs, fs⟩) (HW : Hid (wireWrong ⟨3, n, v, rs, fs⟩ = 0))
    (hn1 : 1 ≤ n) (hn2 : n ≤ 100000) (hv1 : 1 ≤ v) (hv2 : v ≤ 1000) :
    Calls Try.prog 11 #[.agg #[.int .i64 3, .int .i64 n, .int .i64 v, .slice ra rl rc, .slice fa fl fc]] w fun e w' => ∃ ao cap L, e = .returned (.tuple #[.slice ao L cap, .int .i64 0]) ∧ ownR byteS 5 (fun _ => False) w.heap.size w' ao L cap ([3, n / 65536, n / 256 % 256, n % 256, v / 256, v % 256] ++ [sumB [3, n / 65536, n / 256 % 256, n % 256, v / 256, v % 256]]) ∧ Below w.heap.size w w' := by
  obtain ⟨i0, hi, hz0, hz1, hz2⟩ := info_parts info_u8
  go_enter Try.func11, Try.ntmps11
  go_wp2_with fail
  refine (refWrong_c _ _ ok _ (orderS.below h (by (repeat' (first | with_reducible exact Below.refl _ _ | with_reducible assumption | with_reducible refine Below.drew ?_ | with_reducible refine Below_drewN ?_ _ | with_reducible refine Below.alloc ?_ ?_ _ | with_reducible refine Below.setCell ?_ ?_ _ | omega | (simp; done) | (simp; omega)))))).mono ?_
  rintro e w1 ⟨rfl, hb1⟩
  rw [HW.out]
  obtain ⟨q1, q2⟩ := bcell hb1
  have hB : Below w.heap.size w w1 := Below.trans (by (repeat' (first | with_reducible exact Below.refl _ _ | with_reducible assumption | with_reducible refine Below.drew ?_ | with_reducible refine Below_drewN ?_ _ | with_reducible refine Below.alloc ?_ ?_ _ | with_reducible refine Below.setCell ?_ ?_ _ | omega | (simp; done) | (simp; omega)))) (hb1.mono (by first | omega | (simp; done) | (simp; omega)))
  have hs1 : w.heap.size < w1.heap.size := by have := hb1.size; simp at this; omega
  have hown : ownR byteS 5 (fun _ => False) (w.heap.size + 1) (w1.alloc (.cells #[.int .u8 3, .int .u8 (n / 65536), .int .u8 (n / 256 % 256), .int .u8 (n % 256), .int .u8 (v / 256), .int .u8 (v % 256)] 5)) (some ⟨w1.heap.size, 0, none⟩) 6 6 [3, n / 65536, n / 256 % 256, n % 256, v / 256, v % 256] :=
    ownR.bytes [3, n / 65536, n / 256 % 256, n % 256, v / 256, v % 256] (fun x hx => preB_byte hn1 hn2 hv1 hv2 (by omega) (by omega) (Int.le_refl 0) (by omega) (l := 0) (k := 3) x (by simp only [preB, List.mem_cons, List.not_mem_nil, or_false] at hx ⊢; omega)) (by omega) (by simp [maxLen])
  obtain ⟨s1, s2⟩ := sumB_range [3, n / 65536, n / 256 % 256, n % 256, v / 256, v % 256]
  have hrow := hown.row (ok' := fun _ => True) (fun _ h => h.elim) (fun _ _ => trivial)
  clear hb1 h
  go_wp2_with fail
  refine (refSum_c [3, n / 65536, n / 256 % 256, n % 256, v / 256, v % 256] (fun _ => True) _ _ _ hrow).mono ?_
  rintro e w3 ⟨rfl, rfl⟩
  generalize hG : sumB [3, n / 65536, n / 256 % 256, n % 256, v / 256, v % 256] = y at *
  have HG := Lib.hid hG
  have hby : ∀ x ∈ [y], isByte x := by intro x hx; simp only [List.mem_cons, List.not_mem_nil, or_false] at hx; unfold isByte; omega
  clear hrow hG
  go_wp2_with (at_builtin; go_must (refine wpList_appR (sh := byteS) rfl _ _ 26 rfl 5 i0 (.int .u8 0) 1 Try.underlying26 hi hz0 hz1 hz2 rfl (by decide) rfl (hown.alloc _) rfl rfl (srcRep.bytes [y] (by simp) hby) (by simp only [maxLen]; omega) (by omega) (by first | omega | (simp; done) | (simp; omega)) ?_); go_must (intro ao1 cap1 w2 hown1 hg1 _; have hb2 := grown_below (B := w.heap.size + 1) hg1 (fun k hk => (hown.lt k hk).1) (by first | omega | (simp; done) | (simp; omega)); obtain ⟨q3, q4⟩ := bcellB hb2))
  go_ret2
  exact ⟨ao1, cap1, _, rfl, by rw [HG.out]; exact hown1.base (Nat.le_succ _), Below.trans (by (repeat' (first | with_reducible exact Below.refl _ _ | with_reducible assumption | with_reducible refine Below.drew ?_ | with_reducible refine Below_drewN ?_ _ | with_reducible refine Below.alloc ?_ ?_ _ | with_reducible refine Below.setCell ?_ ?_ _ | omega | (simp; done) | (simp; omega)))) (hb2.mono (by omega))⟩

/-- BYTES -/
theorem refBytes_c (o : Order) (cs : List Value) (ok : Nat → Prop) (w : World) (h : orderS.rep ok w cs o) :
    Calls Try.prog 11 #[.agg cs.toArray] w fun e w' => ∃ ao cap, e = .returned (.tuple #[.slice ao (bytesOf o).length cap, .int .i64 (wireWrong o)]) ∧ rowRep byteS (fun b => w.heap.size ≤ b) w' ao cap (bytesOf o) ∧ Below w.heap.size w w' := by
  by_cases hw : wireWrong o = 0
  case neg =>
    refine (refBytes_bad o cs ok w h hw).mono ?_
    rintro e w' ⟨rfl, hb⟩
    rw [bytesOf_bad hw]
    exact ⟨none, 0, rfl, rowRep.nil _ _ _ _, hb⟩
  rw [bytesOf_good hw, hw]
  obtain ⟨hn1, hn2, hv1, hv2, hk⟩ := good_parts hw
  have fin : ∀ (e : Ending) (w' : World) (X : List Int), X = bodyB o → (∃ ao cap L, e = .returned (.tuple #[.slice ao L cap, .int .i64 0]) ∧ ownR byteS 5 (fun _ => False) w.heap.size w' ao L cap (X ++ [sumB X]) ∧ Below w.heap.size w w') →
      ∃ ao cap, e = .returned (.tuple #[.slice ao (bodyB o ++ [sumB (bodyB o)]).length cap, .int .i64 0]) ∧ rowRep byteS (fun b => w.heap.size ≤ b) w' ao cap (bodyB o ++ [sumB (bodyB o)]) ∧ Below w.heap.size w w' := by
    rintro e w' X rfl ⟨ao, cap, L, rfl, hown, hb⟩
    obtain rfl := hown.len_eq
    exact ⟨ao, cap, rfl, hown.row (fun _ h => h.elim) (fun k hk => (hown.lt k hk).1), hb⟩
  obtain ⟨ra, rc, fa, fc, rfl, i1, i2, i3, hr, hf⟩ := id h
  obtain ⟨k, n, v, rs, fs⟩ := o
  dsimp only at *
  rcases hk with ⟨rfl, hl, ha⟩ | ⟨rfl, hl, ha⟩ | rfl
  · exact (refBytes_add n v ra fa rc fc _ rs fs ok w h hr (Lib.hid hw) hn1 hn2 hv1 hv2 hl (Lib.hid ha)).mono fun e w' hh => fin e w' _ rfl hh
  · exact (refBytes_stamp n v ra fa rc fc _ rs fs ok w h hf (Lib.hid hw) hn1 hn2 hv1 hv2 hl (Lib.hid ha)).mono fun e w' hh => fin e w' _ rfl hh
  · exact (refBytes_drop n v ra fa rc fc _ _ rs fs ok w h (Lib.hid hw) hn1 hn2 hv1 hv2).mono fun e w' hh => fin e w' _ rfl hh

end Go.Proofs.Ytpbfcpnenpcobaa
