/-
  The walk of package wire's Parse, where an order comes.
-/
import Derived.Test.YtpbfcpnenpcobaaParseV
set_option linter.unusedSimpArgs false
set_option linter.unusedVariables false
namespace Go.Proofs.Ytpbfcpnenpcobaa
open Go.RowKit Go.St

set_option maxRecDepth 100000 in
set_option maxHeartbeats 4000000 in
theorem parse_add (k1 k2 k3 k4 k5 c num ver : Int) (t : List Int) (ok : Nat → Prop) (b off cx : Nat) (w : World) (hrow : rowRep byteS ok w (some ⟨b, off, none⟩) cx (1 :: k1 :: k2 :: k3 :: k4 :: k5 :: t))
    (c0 : w.cell? ⟨b, off, none⟩ = some (.int .u8 1)) (c1 : w.cell? ⟨b, off + 1, none⟩ = some (.int .u8 k1)) (c2 : w.cell? ⟨b, off + 2, none⟩ = some (.int .u8 k2))
    (c3 : w.cell? ⟨b, off + 3, none⟩ = some (.int .u8 k3)) (c4 : w.cell? ⟨b, off + 4, none⟩ = some (.int .u8 k4)) (c5 : w.cell? ⟨b, off + 5, none⟩ = some (.int .u8 k5))
    (ct : ∀ i (h : i < t.length), w.cell? ⟨b, off + 6 + i, none⟩ = some (.int .u8 t[i]) ∧ 0 ≤ t[i] ∧ t[i] ≤ 255)
    (cl : w.cell? ⟨b, off + (t.length + 6), none⟩ = some (.int .u8 c)) (hcx : t.length + 7 ≤ cx) (hlen : t.length ≤ 9223372036854775800)
    (a0 : 0 ≤ 1) (b0 : 1 ≤ 255) (a1 : 0 ≤ k1) (b1 : k1 ≤ 255) (a2 : 0 ≤ k2) (b2 : k2 ≤ 255) (a3 : 0 ≤ k3) (b3 : k3 ≤ 255) (a4 : 0 ≤ k4) (b4 : k4 ≤ 255) (a5 : 0 ≤ k5) (b5 : k5 ≤ 255)
    (hnum : bits BinOp.or IntKind.i64 (bits BinOp.or IntKind.i64 (k1 * 65536) (k2 * 256)) k3 = num) (hver : bits BinOp.or IntKind.i64 (k4 * 256) k5 = ver) (hn0 : 0 ≤ num) (hn1 : num ≤ 16777215) (hv0 : 0 ≤ ver) (hv1 : ver ≤ 65535)
    (hbl : b < w.heap.size) (hs : (sumB (1 :: k1 :: k2 :: k3 :: k4 :: k5 :: t) != c) = false) (ht : 1 ≤ t.length) (n : Int) (hn : w.cell? ⟨b, off + 6, none⟩ = some (.int .u8 n)) (hn2 : 0 ≤ n) (hn3 : n ≤ 255) (hne : ((t.length : Int) != 1 + 2 * n) = false) :
    Calls Try.prog 12 #[.slice (some ⟨b, off, none⟩) (t.length + 7) cx] w fun e w' => endsGood ⟨1, num, ver, pairsTo ver t n.toNat, []⟩ w e w' := by
  have hrow' : ∀ X nq, rowRep byteS ok ((w.alloc X).drewN nq) (some ⟨b, off, none⟩) cx (1 :: k1 :: k2 :: k3 :: k4 :: k5 :: t) := fun X nq => hrow.below (by (repeat' (first | with_reducible exact Below.refl _ _ | with_reducible assumption | with_reducible refine Below.drew ?_ | with_reducible refine Below_drewN ?_ _ | with_reducible refine Below.alloc ?_ ?_ _ | with_reducible refine Below.setCell ?_ ?_ _ | omega | (simp; done) | (simp; omega))))
  have hlt' : decide ((t.length : Int) + 7 < 7) = false := by rw [decide_eq_false_iff_not]; omega
  have g1 : IntKind.i64.wrap ((t.length : Int) + 7 - 1) = (t.length : Int) + 6 := by rw [IntWalk.i64_in _ (by omega)]; omega
  have g3 : ((t.length : Int) + 6).toNat = t.length + 6 := by omega
  have g2 : (0 : Int) ≤ (t.length : Int) + 6 := by omega
  have g4 : (t.length : Int) + 6 ≤ (cx : Int) := by omega
  have g5 : (t.length : Int) + 6 < (t.length : Int) + 7 := by omega
  have i0 : (0 : Int) < (t.length : Int) + 6 := by omega
  have i1 : (1 : Int) < (t.length : Int) + 6 := by omega
  have i2 : (2 : Int) < (t.length : Int) + 6 := by omega
  have i3 : (3 : Int) < (t.length : Int) + 6 := by omega
  have i4 : (4 : Int) < (t.length : Int) + 6 := by omega
  have i5 : (5 : Int) < (t.length : Int) + 6 := by omega
  have hmm := @run_makeMap Try.prog
  have hlaw : KeyLaw Try.prog 3 (Value.int .i64) := KeyLaw.int Try.underlying3
  have HZ : Hid (∀ w, (zeroValue 3).run Try.prog w = .ok (.int .i64 0) w) := fun w => by kernel_rfl
  have hget := get1
  go_enter Try.func12, Try.ntmps12
  go_wp2
  go_quiet ((go_at_call 17; exact Calls.quiet_of_same (sum_n _ _ (by simp) ok _ cx _ (hrow' _ _))))
  go_wp2
  go_region_held3 (fun w' => w'.cell? ⟨b, off, none⟩ = some (.int .u8 1) ∧ w'.cell? ⟨b, off + 1, none⟩ = some (.int .u8 k1) ∧ w'.cell? ⟨b, off + 2, none⟩ = some (.int .u8 k2) ∧ w'.cell? ⟨b, off + 3, none⟩ = some (.int .u8 k3) ∧ w'.cell? ⟨b, off + 4, none⟩ = some (.int .u8 k4) ∧ w'.cell? ⟨b, off + 5, none⟩ = some (.int .u8 k5)) (go_keep) ((fail))
  rename_i hHeld
  clear hHeld
  clear hrow hrow' i0 i1 i2 i3 i4 i5 g1 g2 g3 g4 g5 hlt'
  have ht' : ¬ (t.length : Int) < 1 := by omega
  have ht1 : (0 : Int) < (t.length : Int) := by omega
  go_wp2_with (first
    | (refine wpList_insertM (enc := Value.int .i64) rfl _ _ _ 44 (Or.inl rfl) 3 3 Try.underlying44 hlaw (mapIs.made' _ _ _ (by simp)) 1 (.int .i64 2) rfl rfl rfl ?_; intro w3 hm3 hg3; have hb3 := grown_below (B := w.heap.size + 2) hg3 (fun k hk => by simp at hk; omega) (by simp); obtain ⟨q3, q4⟩ := bcellB hb3)
    | (refine wpList_insertM (enc := Value.int .i64) rfl _ _ _ 44 (Or.inl rfl) 3 3 Try.underlying44 hlaw hm3 2 (.int .i64 1) rfl rfl rfl ?_; go_must (intro w4 hm4 hg4; have hb4 := grown_below (B := w.heap.size + 2) hg4 (fun k hk => by simp at hk; omega) (by have := hb3.size; simp at this; omega); obtain ⟨q5, q6⟩ := bcellB hb4; have hBm : Below w.heap.size w w4 := Below.trans (Below.trans (by (repeat' (first | with_reducible exact Below.refl _ _ | with_reducible assumption | with_reducible refine Below.drew ?_ | with_reducible refine Below_drewN ?_ _ | with_reducible refine Below.alloc ?_ ?_ _ | with_reducible refine Below.setCell ?_ ?_ _ | omega | (simp; done) | (simp; omega)))) (hb3.mono (by omega))) (hb4.mono (by omega)); obtain ⟨q7, q8⟩ := bcellB hBm; have hB0 : blockIs w4 w.heap.size 25 #[.int .i64 0, .int .i64 0, .int .i64 0, .slice none 0 0, .slice none 0 0] := (((((blockIs.new rfl).drewN _).alloc _).alloc _).grown hg3 (by first | (simp; done) | (simp; omega))).grown hg4 (by first | (simp; done) | (simp; omega)); have hB1 : blockIs w4 (w.heap.size + 1) 25 #[.int .i64 1, .int .i64 num, .int .i64 ver, .slice none 0 0, .slice none 0 0] := (((blockIs.new (by simp)).alloc _).grown hg3 (by first | (simp; done) | (simp; omega))).grown hg4 (by first | (simp; done) | (simp; omega)); obtain ⟨r1, r2⟩ := hB0.cells; obtain ⟨r3, r4⟩ := hB1.cells; clear q3 q4 q5 q6 hb3 hg3 hg4; have hBz := hB0; clear hB0))
    | (refine wpList_lookupM (enc := Value.int .i64) rfl _ _ 44 rfl 3 3 Try.underlying44 hlaw hm4 1 (.int .i64 0) HZ.out rfl rfl ?_; rw [hget])
    | fail)
  have hm0 : (t.length : Int) = 1 + 2 * n := by simpa using hne
  have hm : Hid (t.length = 1 + 2 * n.toNat) := by show _ = _; omega
  clear hm0
  obtain ⟨i0, hi, hz0, hz1, hz2⟩ := info_parts info_rule
  have hw4 : w.heap.size + 1 < w4.heap.size := by have := hB1.lt; omega
  have hB0 : blockIs w4 w.heap.size 25 #[.int .i64 0, .int .i64 0, .int .i64 0, .slice none 0 0, .slice none 0 0] := hBz
  clear hm4 hne r1 r2 r3 r4 q7 q8 hlaw hget hmm hBz
  go_loopw [7] (fun iv wr => ∃ (j i : Nat) (ao : Option Addr) (L cap : Nat), j ≤ n.toNat ∧ Hid (i = 1 + 2 * j) ∧ iv = .int .i64 i ∧ ownR ruleS 41 (fun _ => False) (w.heap.size + 2) wr ao L cap (pairsTo ver t j) ∧ Below w.heap.size w wr ∧ blockIs wr w.heap.size 25 #[.int .i64 0, .int .i64 0, .int .i64 0, .slice none 0 0, .slice none 0 0] ∧
      blockIs wr (w.heap.size + 1) 25 #[.int .i64 1, .int .i64 num, .int .i64 ver, .slice ao L cap, .slice none 0 0]) (fun iv _ => t.length - (intOf iv).toNat)
  case atStart => exact ⟨0, 1, none, 0, 0, Nat.zero_le _, rfl, rfl, ownR.nil' _ _ _ _, hBm, hB0, hB1⟩
  case round =>
    obtain ⟨j, i, ao, L, cap, hj, hij, rfl, hown, hb, hB0', hB1'⟩ := hrel
    have hLb : L ≤ 1000 := by rw [hown.len_eq, pairsTo_len]; omega
    have hsz : w.heap.size + 1 < wr.heap.size := by have := hB1'.lt; omega
    obtain ⟨r1, r2⟩ := hB0'.cells
    obtain ⟨r3, r4⟩ := hB1'.cells
    by_cases hlt : j < n.toNat
    · have hi1 : i < t.length := by have := hij.out; have := hm.out; omega
      have hi2 : i + 1 < t.length := by have := hij.out; have := hm.out; omega
      obtain ⟨e1, x0, x1⟩ := ct i hi1
      obtain ⟨e2, y0, y1⟩ := ct (i + 1) hi2
      have hp : Hid (pairsTo ver t (j + 1) = pairsTo ver t j ++ [⟨ver, t[i], t[i + 1]⟩]) := pairsTo_succ hij.out hi2
      have e1 := cell_at hb hbl e1
      have e2 := cell_at hb hbl e2
      generalize t[i] = x at *
      generalize t[i + 1] = y at *
      have v0 : (0 : Int) ≤ (i : Int) := by omega
      have v1 : (i : Int) < (t.length : Int) := by omega
      have v2 : (i : Int) + 1 < (t.length : Int) := by omega
      have v3 : (0 : Int) ≤ (i : Int) + 1 := by omega
      have v4 : ((i : Int) + 1).toNat = i + 1 := by omega
      have v5 : IntKind.i64.wrap ((i : Int) + 1) = (i : Int) + 1 := IntWalk.i64_in _ (by omega)
      have hbl2 : b < w.heap.size + 2 := by omega
      have v6 : IntKind.i64.wrap x = x := IntWalk.i64_in _ (by omega)
      have v7 : IntKind.i64.wrap y = y := IntWalk.i64_in _ (by omega)
      have hI1 : I64 ver := I64.small (by omega) (by omega)
      have hI2 : I64 x := I64.small (by omega) (by omega)
      have hI3 : I64 y := I64.small (by omega) (by omega)
      go_wp2
      have hS0 : SK (w.heap.size + 1) b off i ao L cap ver x y wr := by refine ⟨?_, ?_, ?_, ?_⟩ <;> go_simp
      have hS : SK (w.heap.size + 1) b off i ao L cap ver x y wr.drew := hS0.below (B := w.heap.size + 2) (by (repeat' (first | with_reducible exact Below.refl _ _ | with_reducible assumption | with_reducible refine Below.drew ?_ | with_reducible refine Below_drewN ?_ _ | with_reducible refine Below.alloc ?_ ?_ _ | with_reducible refine Below.setCell ?_ ?_ _ | omega | (simp; done) | (simp; omega)))) (by omega) (by omega)
      have HS1 : Hid (∀ o, SK (w.heap.size + 1) b off i ao L cap ver x y (wr.alloc o).drew) := fun o => hS0.below (B := w.heap.size + 2) (by (repeat' (first | with_reducible exact Below.refl _ _ | with_reducible assumption | with_reducible refine Below.drew ?_ | with_reducible refine Below_drewN ?_ _ | with_reducible refine Below.alloc ?_ ?_ _ | with_reducible refine Below.setCell ?_ ?_ _ | omega | (simp; done) | (simp; omega)))) (by omega) (by omega)
      refine wp_region_K (SK (w.heap.size + 1) b off i ao L cap ver x y) 19 (by kernel_rfl) ?_
      refine wpAnyK_take (i := 0) (.pointer (some ⟨w.heap.size + 1, 3, none⟩)) rfl (by kernel_rfl) (fun _ _ _ h => h) hS (yields_value (by rfl) (by intro w0 hw0; have hw1 := hw0; simp only [SK] at hw1; go_simp)) ?_; simp only [Act.put, List.setIfInBounds_toArray, List.set_cons_succ, List.set_cons_zero]
      refine wpAnyK_take (i := 1) (.slice ao L cap) rfl (by kernel_rfl) (fun _ _ _ h => h) hS (yields_value (by rfl) (by intro w0 hw0; have hw1 := hw0; simp only [SK] at hw1; go_simp)) ?_; simp only [Act.put, List.setIfInBounds_toArray, List.set_cons_succ, List.set_cons_zero]
      refine wpAnyK_take (i := 2) (.pointer (some ⟨w.heap.size + 1, 2, none⟩)) rfl (by kernel_rfl) (fun _ _ _ h => h) hS (yields_value (by rfl) (by intro w0 hw0; have hw1 := hw0; simp only [SK] at hw1; go_simp)) ?_; simp only [Act.put, List.setIfInBounds_toArray, List.set_cons_succ, List.set_cons_zero]
      refine wpAnyK_take (i := 3) (.int .i64 ver) rfl (by kernel_rfl) (fun _ _ _ h => h) hS (yields_value (by rfl) (by intro w0 hw0; have hw1 := hw0; simp only [SK] at hw1; go_simp)) ?_; simp only [Act.put, List.setIfInBounds_toArray, List.set_cons_succ, List.set_cons_zero]
      refine wpAnyK_take (i := 4) (.slice (some ⟨b, off + 6, none⟩) t.length (cx - 6)) rfl (by kernel_rfl) (fun _ _ _ h => h) hS (yields_value (by rfl) (by intro w0 hw0; have hw1 := hw0; simp only [SK] at hw1; go_simp)) ?_; simp only [Act.put, List.setIfInBounds_toArray, List.set_cons_succ, List.set_cons_zero]
      refine wpAnyK_take (i := 5) (.int .i64 i) rfl (by kernel_rfl) (fun _ _ _ h => h) hS (yields_value (by rfl) (by intro w0 hw0; have hw1 := hw0; simp only [SK] at hw1; go_simp)) ?_; simp only [Act.put, List.setIfInBounds_toArray, List.set_cons_succ, List.set_cons_zero]
      refine wpAnyK_take (i := 6) (.pointer (some ⟨b, off + 6 + i, none⟩)) rfl (by kernel_rfl) (fun _ _ _ h => h) hS (yields_value (by rfl) (by intro w0 hw0; have hw1 := hw0; simp only [SK] at hw1; go_simp)) ?_; simp only [Act.put, List.setIfInBounds_toArray, List.set_cons_succ, List.set_cons_zero]
      refine wpAnyK_take (i := 7) (.int .u8 x) rfl (by kernel_rfl) (fun _ _ _ h => h) hS (yields_value (by rfl) (by intro w0 hw0; have hw1 := hw0; simp only [SK] at hw1; go_simp)) ?_; simp only [Act.put, List.setIfInBounds_toArray, List.set_cons_succ, List.set_cons_zero]
      refine wpAnyK_take (i := 8) (.int .i64 x) rfl (by kernel_rfl) (fun _ _ _ h => h) hS (yields_value (by rfl) (by intro w0 hw0; have hw1 := hw0; simp only [SK] at hw1; go_simp)) ?_; simp only [Act.put, List.setIfInBounds_toArray, List.set_cons_succ, List.set_cons_zero]
      refine wpAnyK_take (i := 9) (.slice (some ⟨b, off + 6, none⟩) t.length (cx - 6)) rfl (by kernel_rfl) (fun _ _ _ h => h) hS (yields_value (by rfl) (by intro w0 hw0; have hw1 := hw0; simp only [SK] at hw1; go_simp)) ?_; simp only [Act.put, List.setIfInBounds_toArray, List.set_cons_succ, List.set_cons_zero]
      refine wpAnyK_take (i := 10) (.int .i64 i) rfl (by kernel_rfl) (fun _ _ _ h => h) hS (yields_value (by rfl) (by intro w0 hw0; have hw1 := hw0; simp only [SK] at hw1; go_simp)) ?_; simp only [Act.put, List.setIfInBounds_toArray, List.set_cons_succ, List.set_cons_zero]
      refine wpAnyK_take (i := 11) (.int .i64 ((i : Int) + 1)) rfl (by kernel_rfl) (fun _ _ _ h => h) hS (yields_value (by rfl) (by intro w0 hw0; have hw1 := hw0; simp only [SK] at hw1; go_simp)) ?_; simp only [Act.put, List.setIfInBounds_toArray, List.set_cons_succ, List.set_cons_zero]
      refine wpAnyK_take (i := 12) (.pointer (some ⟨b, off + 6 + (i + 1), none⟩)) rfl (by kernel_rfl) (fun _ _ _ h => h) hS (yields_value (by rfl) (by intro w0 hw0; have hw1 := hw0; simp only [SK] at hw1; go_simp)) ?_; simp only [Act.put, List.setIfInBounds_toArray, List.set_cons_succ, List.set_cons_zero]
      refine wpAnyK_take (i := 13) (.int .u8 y) rfl (by kernel_rfl) (fun _ _ _ h => h) hS (yields_value (by rfl) (by intro w0 hw0; have hw1 := hw0; simp only [SK] at hw1; go_simp)) ?_; simp only [Act.put, List.setIfInBounds_toArray, List.set_cons_succ, List.set_cons_zero]
      refine wpAnyK_take (i := 14) (.int .i64 y) rfl (by kernel_rfl) (fun _ _ _ h => h) hS (yields_value (by rfl) (by intro w0 hw0; have hw1 := hw0; simp only [SK] at hw1; go_simp)) ?_; simp only [Act.put, List.setIfInBounds_toArray, List.set_cons_succ, List.set_cons_zero]
      refine wpAnyK_take (i := 15) (.agg #[.int .i64 ver, .int .i64 x, .int .i64 y]) rfl (by kernel_rfl) (fun _ _ _ h => h) hS (yields_value (by rfl) (by intro w0 hw0; have hw1 := hw0; simp only [SK] at hw1; go_simp)) ?_; simp only [Act.put, List.setIfInBounds_toArray, List.set_cons_succ, List.set_cons_zero]
      refine wpAnyK_only (i := 16) rfl rfl (by kernel_rfl) ?_
      go_simp
      refine ⟨HS1.out _, ?_⟩
      refine wpAnyK_only (i := 17) rfl rfl (by kernel_rfl) ?_
      refine wp_appR (sh := ruleS) (m := 1) (c := 1) (ax := some ⟨wr.heap.size, 0, none⟩) _ _ 22 rfl 41 i0 (.agg #[.int .i64 0, .int .i64 0, .int .i64 0]) 24 Try.underlying22 hi hz0 hz1 hz2 rfl (by decide) rfl (hown.below (by (repeat' (first | with_reducible exact Below.refl _ _ | with_reducible assumption | with_reducible refine Below.drew ?_ | with_reducible refine Below_drewN ?_ _ | with_reducible refine Below.alloc ?_ ?_ _ | with_reducible refine Below.setCell ?_ ?_ _ | omega | (simp; done) | (simp; omega))))) rfl rfl (srcRep.drew (srcRep.rule ⟨ver, x, y⟩ rfl hI1 hI2 hI3)) (by simp only [maxLen]; omega) (by omega) (by simp; omega) ?_
      intro ao1 cap1 w2 hown1 hg1 _
      have hb2 := grown_below (B := w.heap.size + 2) hg1 (fun k hk => (hown.lt k hk).1) (by simp; omega)
      obtain ⟨s1, s2⟩ := bcellB hb2
      simp only [Act.put, List.setIfInBounds_toArray, List.set_cons_succ, List.set_cons_zero]
      have HS2 := Lib.hid ((HS1.out _).below hb2 (by omega) (by omega))
      refine ⟨fun _ => HS2.out, ?_⟩
      refine wpAnyK_only (i := 18) rfl rfl (by kernel_rfl) ?_
      go_simp
      refine ⟨HS2.out, ?_⟩
      refine wpAnyK_only (i := 19) rfl rfl (by kernel_rfl) ?_
      go_simp
      refine wpAnyK_done (by kernel_rfl) ?_ _
      have G0 : blockIs w2 w.heap.size 25 _ := (hB0'.alloc _).drew.below hb2 (by omega)
      have G1 : blockIs w2 (w.heap.size + 1) 25 _ := (hB1'.alloc _).drew.below hb2 (by omega)
      have hB2 : Below w.heap.size w w2 := Below.trans (by (repeat' (first | with_reducible exact Below.refl _ _ | with_reducible assumption | with_reducible refine Below.drew ?_ | with_reducible refine Below_drewN ?_ _ | with_reducible refine Below.alloc ?_ ?_ _ | with_reducible refine Below.setCell ?_ ?_ _ | omega | (simp; done) | (simp; omega)))) (hb2.mono (by omega))
      go_wp2
      case roundEnd =>
        go_roundw
        case rel => exact ⟨j + 1, i + 2, ao1, _, cap1, by omega, (by have := hij.out; show _ = _; omega), by go_num, hp.out ▸ hown1.setCell (by simp) _, by (repeat' (first | with_reducible exact Below.refl _ _ | with_reducible assumption | with_reducible refine Below.drew ?_ | with_reducible refine Below_drewN ?_ _ | with_reducible refine Below.alloc ?_ ?_ _ | with_reducible refine Below.setCell ?_ ?_ _ | omega | (simp; done) | (simp; omega))), G0.setOther (by simp) _, by simpa using G1.set 3 _⟩
        case measure => simp [intOf]; omega
    · have hjn : j = n.toNat := by omega
      subst hjn
      have hi1 : ¬ i < t.length := by have := hij.out; have := hm.out; omega
      obtain rfl := hown.len_eq
      have hIn : I64 num := I64.small (by omega) (by omega)
      have hIv : I64 ver := I64.small (by omega) (by omega)
      have hrep : orderS.rep (fun b => w.heap.size + 2 ≤ b) wr [.int .i64 1, .int .i64 num, .int .i64 ver, .slice ao (pairsTo ver t n.toNat).length cap, .slice none 0 0] ⟨1, num, ver, pairsTo ver t n.toNat, []⟩ :=
        ⟨_, _, _, _, rfl, I64.small (n := 1) (by decide) (by decide), hIn, hIv, hown.row (fun _ h => h.elim) (fun k hk => (hown.lt k hk).1), rowRep.nil _ _ _ _⟩
      clear hown
      go_wp2_with fail
      refine (wireWrong_c ⟨1, num, ver, pairsTo ver t n.toNat, []⟩ _ _ _ hrep).mono ?_
      rintro e w5 ⟨rfl, hb5⟩
      have G0 := hB0'.under hb5
      obtain ⟨r1, r2⟩ := G0.cells
      obtain ⟨r3, r4⟩ := (hB1'.under hb5).cells
      have hB5 : Below w.heap.size w w5 := hb.trans (hb5.mono (by omega))
      have hrep5 := orderS.below hrep hb5
      clear hb5 hrep
      by_cases hw : wireWrong ⟨1, num, ver, pairsTo ver t n.toNat, []⟩ = 0
      · have HW := Lib.hid hw
        have hw' : (wireWrong ⟨1, num, ver, pairsTo ver t n.toNat, []⟩ != 0) = false := by simp [hw]
        clear hw
        go_wp2
        have G := (((((G0.set 0 (.int .i64 1)).set 1 (.int .i64 num)).set 2 (.int .i64 ver)).set 3 (.slice ao (pairsTo ver t n.toNat).length cap)).set 4 (.slice none 0 0))
        obtain ⟨z1, z2⟩ := G.cells
        refine bodyPost_ret (v := .tuple #[.agg #[.int .i64 1, .int .i64 num, .int .i64 ver, .slice ao (pairsTo ver t n.toNat).length cap, .slice none 0 0], .int .i64 0]) (by simp [results, Try.results12, go_sem, z1]) rfl ?_
        refine endsGood_ok HW.out (orderS.mono hrep5 fun g hg hk => ⟨by omega, ?_⟩) ?_
        · exact set5_heap _ _ _ _ _ (by omega)
        · (repeat' (first | with_reducible exact Below.refl _ _ | with_reducible assumption | with_reducible refine Below.drew ?_ | with_reducible refine Below_drewN ?_ _ | with_reducible refine Below.alloc ?_ ?_ _ | with_reducible refine Below.setCell ?_ ?_ _ | omega | (simp; done) | (simp; omega)))
      · have HW := Lib.hid hw
        have hw' : (wireWrong ⟨1, num, ver, pairsTo ver t n.toNat, []⟩ != 0) = true := by simpa using hw
        clear hw
        go_wp2
        have G := (((((G0.set 0 (.int .i64 0)).set 1 (.int .i64 0)).set 2 (.int .i64 0)).set 3 (.slice none 0 0)).set 4 (.slice none 0 0))
        obtain ⟨z1, z2⟩ := G.cells
        refine bodyPost_ret (v := .tuple #[.agg #[.int .i64 0, .int .i64 0, .int .i64 0, .slice none 0 0, .slice none 0 0], .int .i64 (wireWrong ⟨1, num, ver, pairsTo ver t n.toNat, []⟩)]) (by simp [results, Try.results12, go_sem, z1]) rfl ?_
        refine endsGood_bad HW.out ?_ 
        (repeat' (first | with_reducible exact Below.refl _ _ | with_reducible assumption | with_reducible refine Below.drew ?_ | with_reducible refine Below_drewN ?_ _ | with_reducible refine Below.alloc ?_ ?_ _ | with_reducible refine Below.setCell ?_ ?_ _ | omega | (simp; done) | (simp; omega)))


set_option maxRecDepth 100000 in
set_option maxHeartbeats 4000000 in
theorem parse_stamp (k1 k2 k3 k4 k5 c num ver : Int) (t : List Int) (ok : Nat → Prop) (b off cx : Nat) (w : World) (hrow : rowRep byteS ok w (some ⟨b, off, none⟩) cx (2 :: k1 :: k2 :: k3 :: k4 :: k5 :: t))
    (c0 : w.cell? ⟨b, off, none⟩ = some (.int .u8 2)) (c1 : w.cell? ⟨b, off + 1, none⟩ = some (.int .u8 k1)) (c2 : w.cell? ⟨b, off + 2, none⟩ = some (.int .u8 k2))
    (c3 : w.cell? ⟨b, off + 3, none⟩ = some (.int .u8 k3)) (c4 : w.cell? ⟨b, off + 4, none⟩ = some (.int .u8 k4)) (c5 : w.cell? ⟨b, off + 5, none⟩ = some (.int .u8 k5))
    (ct : ∀ i (h : i < t.length), w.cell? ⟨b, off + 6 + i, none⟩ = some (.int .u8 t[i]) ∧ 0 ≤ t[i] ∧ t[i] ≤ 255)
    (cl : w.cell? ⟨b, off + (t.length + 6), none⟩ = some (.int .u8 c)) (hcx : t.length + 7 ≤ cx) (hlen : t.length ≤ 9223372036854775800)
    (a0 : 0 ≤ 2) (b0 : 2 ≤ 255) (a1 : 0 ≤ k1) (b1 : k1 ≤ 255) (a2 : 0 ≤ k2) (b2 : k2 ≤ 255) (a3 : 0 ≤ k3) (b3 : k3 ≤ 255) (a4 : 0 ≤ k4) (b4 : k4 ≤ 255) (a5 : 0 ≤ k5) (b5 : k5 ≤ 255)
    (hnum : bits BinOp.or IntKind.i64 (bits BinOp.or IntKind.i64 (k1 * 65536) (k2 * 256)) k3 = num) (hver : bits BinOp.or IntKind.i64 (k4 * 256) k5 = ver) (hn0 : 0 ≤ num) (hn1 : num ≤ 16777215) (hv0 : 0 ≤ ver) (hv1 : ver ≤ 65535)
    (hbl : b < w.heap.size) (hs : (sumB (2 :: k1 :: k2 :: k3 :: k4 :: k5 :: t) != c) = false) (ht : 1 ≤ t.length) (n : Int) (hn : w.cell? ⟨b, off + 6, none⟩ = some (.int .u8 n)) (hn2 : 0 ≤ n) (hn3 : n ≤ 255) (hne : ((t.length : Int) != 1 + n) = false) :
    Calls Try.prog 12 #[.slice (some ⟨b, off, none⟩) (t.length + 7) cx] w fun e w' => endsGood ⟨2, num, ver, [], flowsTo t n.toNat⟩ w e w' := by
  have hrow' : ∀ X nq, rowRep byteS ok ((w.alloc X).drewN nq) (some ⟨b, off, none⟩) cx (2 :: k1 :: k2 :: k3 :: k4 :: k5 :: t) := fun X nq => hrow.below (by (repeat' (first | with_reducible exact Below.refl _ _ | with_reducible assumption | with_reducible refine Below.drew ?_ | with_reducible refine Below_drewN ?_ _ | with_reducible refine Below.alloc ?_ ?_ _ | with_reducible refine Below.setCell ?_ ?_ _ | omega | (simp; done) | (simp; omega))))
  have hlt' : decide ((t.length : Int) + 7 < 7) = false := by rw [decide_eq_false_iff_not]; omega
  have g1 : IntKind.i64.wrap ((t.length : Int) + 7 - 1) = (t.length : Int) + 6 := by rw [IntWalk.i64_in _ (by omega)]; omega
  have g3 : ((t.length : Int) + 6).toNat = t.length + 6 := by omega
  have g2 : (0 : Int) ≤ (t.length : Int) + 6 := by omega
  have g4 : (t.length : Int) + 6 ≤ (cx : Int) := by omega
  have g5 : (t.length : Int) + 6 < (t.length : Int) + 7 := by omega
  have i0 : (0 : Int) < (t.length : Int) + 6 := by omega
  have i1 : (1 : Int) < (t.length : Int) + 6 := by omega
  have i2 : (2 : Int) < (t.length : Int) + 6 := by omega
  have i3 : (3 : Int) < (t.length : Int) + 6 := by omega
  have i4 : (4 : Int) < (t.length : Int) + 6 := by omega
  have i5 : (5 : Int) < (t.length : Int) + 6 := by omega
  have hmm := @run_makeMap Try.prog
  have hlaw : KeyLaw Try.prog 3 (Value.int .i64) := KeyLaw.int Try.underlying3
  have HZ : Hid (∀ w, (zeroValue 3).run Try.prog w = .ok (.int .i64 0) w) := fun w => by kernel_rfl
  have hget := get2
  go_enter Try.func12, Try.ntmps12
  go_wp2
  go_quiet ((go_at_call 17; exact Calls.quiet_of_same (sum_n _ _ (by simp) ok _ cx _ (hrow' _ _))))
  go_wp2
  go_region_held3 (fun w' => w'.cell? ⟨b, off, none⟩ = some (.int .u8 2) ∧ w'.cell? ⟨b, off + 1, none⟩ = some (.int .u8 k1) ∧ w'.cell? ⟨b, off + 2, none⟩ = some (.int .u8 k2) ∧ w'.cell? ⟨b, off + 3, none⟩ = some (.int .u8 k3) ∧ w'.cell? ⟨b, off + 4, none⟩ = some (.int .u8 k4) ∧ w'.cell? ⟨b, off + 5, none⟩ = some (.int .u8 k5)) (go_keep) ((fail))
  rename_i hHeld
  clear hHeld
  clear hrow hrow' i0 i1 i2 i3 i4 i5 g1 g2 g3 g4 g5 hlt'
  have ht' : ¬ (t.length : Int) < 1 := by omega
  have ht1 : (0 : Int) < (t.length : Int) := by omega
  go_wp2_with (first
    | (refine wpList_insertM (enc := Value.int .i64) rfl _ _ _ 44 (Or.inl rfl) 3 3 Try.underlying44 hlaw (mapIs.made' _ _ _ (by simp)) 1 (.int .i64 2) rfl rfl rfl ?_; intro w3 hm3 hg3; have hb3 := grown_below (B := w.heap.size + 2) hg3 (fun k hk => by simp at hk; omega) (by simp); obtain ⟨q3, q4⟩ := bcellB hb3)
    | (refine wpList_insertM (enc := Value.int .i64) rfl _ _ _ 44 (Or.inl rfl) 3 3 Try.underlying44 hlaw hm3 2 (.int .i64 1) rfl rfl rfl ?_; go_must (intro w4 hm4 hg4; have hb4 := grown_below (B := w.heap.size + 2) hg4 (fun k hk => by simp at hk; omega) (by have := hb3.size; simp at this; omega); obtain ⟨q5, q6⟩ := bcellB hb4; have hBm : Below w.heap.size w w4 := Below.trans (Below.trans (by (repeat' (first | with_reducible exact Below.refl _ _ | with_reducible assumption | with_reducible refine Below.drew ?_ | with_reducible refine Below_drewN ?_ _ | with_reducible refine Below.alloc ?_ ?_ _ | with_reducible refine Below.setCell ?_ ?_ _ | omega | (simp; done) | (simp; omega)))) (hb3.mono (by omega))) (hb4.mono (by omega)); obtain ⟨q7, q8⟩ := bcellB hBm; have hB0 : blockIs w4 w.heap.size 25 #[.int .i64 0, .int .i64 0, .int .i64 0, .slice none 0 0, .slice none 0 0] := (((((blockIs.new rfl).drewN _).alloc _).alloc _).grown hg3 (by first | (simp; done) | (simp; omega))).grown hg4 (by first | (simp; done) | (simp; omega)); have hB1 : blockIs w4 (w.heap.size + 1) 25 #[.int .i64 2, .int .i64 num, .int .i64 ver, .slice none 0 0, .slice none 0 0] := (((blockIs.new (by simp)).alloc _).grown hg3 (by first | (simp; done) | (simp; omega))).grown hg4 (by first | (simp; done) | (simp; omega)); obtain ⟨r1, r2⟩ := hB0.cells; obtain ⟨r3, r4⟩ := hB1.cells; clear q3 q4 q5 q6 hb3 hg3 hg4; have hBz := hB0; clear hB0))
    | (refine wpList_lookupM (enc := Value.int .i64) rfl _ _ 44 rfl 3 3 Try.underlying44 hlaw hm4 2 (.int .i64 0) HZ.out rfl rfl ?_; rw [hget])
    | fail)
  have hm0 : (t.length : Int) = 1 + n := by simpa using hne
  have hm : Hid (t.length = 1 + n.toNat) := by show _ = _; omega
  clear hm0
  obtain ⟨i0, hi, hz0, hz1, hz2⟩ := info_parts info_int
  have hw4 : w.heap.size + 1 < w4.heap.size := by have := hB1.lt; omega
  have hB0 : blockIs w4 w.heap.size 25 #[.int .i64 0, .int .i64 0, .int .i64 0, .slice none 0 0, .slice none 0 0] := hBz
  clear hm4 hne r1 r2 r3 r4 q7 q8 hlaw hget hmm hBz
  go_loopw [7] (fun iv wr => ∃ (j i : Nat) (ao : Option Addr) (L cap : Nat), j ≤ n.toNat ∧ Hid (i = 1 + j) ∧ iv = .int .i64 i ∧ ownR intS 3 (fun _ => False) (w.heap.size + 2) wr ao L cap (flowsTo t j) ∧ Below w.heap.size w wr ∧ blockIs wr w.heap.size 25 #[.int .i64 0, .int .i64 0, .int .i64 0, .slice none 0 0, .slice none 0 0] ∧
      blockIs wr (w.heap.size + 1) 25 #[.int .i64 2, .int .i64 num, .int .i64 ver, .slice none 0 0, .slice ao L cap]) (fun iv _ => t.length - (intOf iv).toNat)
  case atStart => exact ⟨0, 1, none, 0, 0, Nat.zero_le _, rfl, rfl, ownR.nil' _ _ _ _, hBm, hB0, hB1⟩
  case round =>
    obtain ⟨j, i, ao, L, cap, hj, hij, rfl, hown, hb, hB0', hB1'⟩ := hrel
    have hLb : L ≤ 1000 := by rw [hown.len_eq, flowsTo_len]; omega
    have hsz : w.heap.size + 1 < wr.heap.size := by have := hB1'.lt; omega
    obtain ⟨r1, r2⟩ := hB0'.cells
    obtain ⟨r3, r4⟩ := hB1'.cells
    by_cases hlt : j < n.toNat
    · have hi1 : i < t.length := by have := hij.out; have := hm.out; omega
      obtain ⟨e1, x0, x1⟩ := ct i hi1
      have hp : Hid (flowsTo t (j + 1) = flowsTo t j ++ [t[i]]) := flowsTo_succ hij.out hi1
      have e1 := cell_at hb hbl e1
      generalize t[i] = x at *
      have v0 : (0 : Int) ≤ (i : Int) := by omega
      have v1 : (i : Int) < (t.length : Int) := by omega
      have hbl2 : b < w.heap.size + 2 := by omega
      have v6 : IntKind.i64.wrap x = x := IntWalk.i64_in _ (by omega)
      have hI2 : I64 x := I64.small (by omega) (by omega)
      go_wp2
      have hS0 : SF (w.heap.size + 1) b off i ao L cap x wr := by refine ⟨?_, ?_⟩ <;> go_simp
      have hS : SF (w.heap.size + 1) b off i ao L cap x wr.drew := hS0.below (B := w.heap.size + 2) (by (repeat' (first | with_reducible exact Below.refl _ _ | with_reducible assumption | with_reducible refine Below.drew ?_ | with_reducible refine Below_drewN ?_ _ | with_reducible refine Below.alloc ?_ ?_ _ | with_reducible refine Below.setCell ?_ ?_ _ | omega | (simp; done) | (simp; omega)))) (by omega) (by omega)
      have HS1 : Hid (∀ o, SF (w.heap.size + 1) b off i ao L cap x (wr.alloc o).drew) := fun o => hS0.below (B := w.heap.size + 2) (by (repeat' (first | with_reducible exact Below.refl _ _ | with_reducible assumption | with_reducible refine Below.drew ?_ | with_reducible refine Below_drewN ?_ _ | with_reducible refine Below.alloc ?_ ?_ _ | with_reducible refine Below.setCell ?_ ?_ _ | omega | (simp; done) | (simp; omega)))) (by omega) (by omega)
      refine wp_region_K (SF (w.heap.size + 1) b off i ao L cap x) 10 (by kernel_rfl) ?_
      refine wpAnyK_take (i := 0) (.pointer (some ⟨w.heap.size + 1, 4, none⟩)) rfl (by kernel_rfl) (fun _ _ _ h => h) hS (yields_value (by rfl) (by intro w0 hw0; have hw1 := hw0; simp only [SF] at hw1; go_simp)) ?_; simp only [Act.put, List.setIfInBounds_toArray, List.set_cons_succ, List.set_cons_zero]
      refine wpAnyK_take (i := 1) (.slice ao L cap) rfl (by kernel_rfl) (fun _ _ _ h => h) hS (yields_value (by rfl) (by intro w0 hw0; have hw1 := hw0; simp only [SF] at hw1; go_simp)) ?_; simp only [Act.put, List.setIfInBounds_toArray, List.set_cons_succ, List.set_cons_zero]
      refine wpAnyK_take (i := 2) (.slice (some ⟨b, off + 6, none⟩) t.length (cx - 6)) rfl (by kernel_rfl) (fun _ _ _ h => h) hS (yields_value (by rfl) (by intro w0 hw0; have hw1 := hw0; simp only [SF] at hw1; go_simp)) ?_; simp only [Act.put, List.setIfInBounds_toArray, List.set_cons_succ, List.set_cons_zero]
      refine wpAnyK_take (i := 3) (.int .i64 i) rfl (by kernel_rfl) (fun _ _ _ h => h) hS (yields_value (by rfl) (by intro w0 hw0; have hw1 := hw0; simp only [SF] at hw1; go_simp)) ?_; simp only [Act.put, List.setIfInBounds_toArray, List.set_cons_succ, List.set_cons_zero]
      refine wpAnyK_take (i := 4) (.pointer (some ⟨b, off + 6 + i, none⟩)) rfl (by kernel_rfl) (fun _ _ _ h => h) hS (yields_value (by rfl) (by intro w0 hw0; have hw1 := hw0; simp only [SF] at hw1; go_simp)) ?_; simp only [Act.put, List.setIfInBounds_toArray, List.set_cons_succ, List.set_cons_zero]
      refine wpAnyK_take (i := 5) (.int .u8 x) rfl (by kernel_rfl) (fun _ _ _ h => h) hS (yields_value (by rfl) (by intro w0 hw0; have hw1 := hw0; simp only [SF] at hw1; go_simp)) ?_; simp only [Act.put, List.setIfInBounds_toArray, List.set_cons_succ, List.set_cons_zero]
      refine wpAnyK_take (i := 6) (.int .i64 x) rfl (by kernel_rfl) (fun _ _ _ h => h) hS (yields_value (by rfl) (by intro w0 hw0; have hw1 := hw0; simp only [SF] at hw1; go_simp)) ?_; simp only [Act.put, List.setIfInBounds_toArray, List.set_cons_succ, List.set_cons_zero]
      refine wpAnyK_only (i := 7) rfl rfl (by kernel_rfl) ?_
      go_simp
      refine ⟨HS1.out _, ?_⟩
      refine wpAnyK_only (i := 8) rfl rfl (by kernel_rfl) ?_
      refine wp_appR (sh := intS) (m := 1) (c := 1) (ax := some ⟨wr.heap.size, 0, none⟩) _ _ 23 rfl 3 i0 (.int .i64 0) 8 Try.underlying23 hi hz0 hz1 hz2 rfl (by decide) rfl (hown.below (by (repeat' (first | with_reducible exact Below.refl _ _ | with_reducible assumption | with_reducible refine Below.drew ?_ | with_reducible refine Below_drewN ?_ _ | with_reducible refine Below.alloc ?_ ?_ _ | with_reducible refine Below.setCell ?_ ?_ _ | omega | (simp; done) | (simp; omega))))) rfl rfl (srcRep.drew (srcRep.ints [x] rfl (by intro z hz; simp only [List.mem_cons, List.not_mem_nil, or_false] at hz; exact hz ▸ hI2))) (by simp only [maxLen]; omega) (by omega) (by simp; omega) ?_
      intro ao1 cap1 w2 hown1 hg1 _
      have hb2 := grown_below (B := w.heap.size + 2) hg1 (fun k hk => (hown.lt k hk).1) (by simp; omega)
      obtain ⟨s1, s2⟩ := bcellB hb2
      simp only [Act.put, List.setIfInBounds_toArray, List.set_cons_succ, List.set_cons_zero]
      have HS2 := Lib.hid ((HS1.out _).below hb2 (by omega) (by omega))
      refine ⟨fun _ => HS2.out, ?_⟩
      refine wpAnyK_only (i := 9) rfl rfl (by kernel_rfl) ?_
      go_simp
      refine ⟨HS2.out, ?_⟩
      refine wpAnyK_only (i := 10) rfl rfl (by kernel_rfl) ?_
      go_simp
      refine wpAnyK_done (by kernel_rfl) ?_ _
      have G0 : blockIs w2 w.heap.size 25 _ := (hB0'.alloc _).drew.below hb2 (by omega)
      have G1 : blockIs w2 (w.heap.size + 1) 25 _ := (hB1'.alloc _).drew.below hb2 (by omega)
      have hB2 : Below w.heap.size w w2 := Below.trans (by (repeat' (first | with_reducible exact Below.refl _ _ | with_reducible assumption | with_reducible refine Below.drew ?_ | with_reducible refine Below_drewN ?_ _ | with_reducible refine Below.alloc ?_ ?_ _ | with_reducible refine Below.setCell ?_ ?_ _ | omega | (simp; done) | (simp; omega)))) (hb2.mono (by omega))
      go_wp2
      case roundEnd =>
        go_roundw
        case rel => exact ⟨j + 1, i + 1, ao1, _, cap1, by omega, (by have := hij.out; show _ = _; omega), by go_num, hp.out ▸ hown1.setCell (by simp) _, by (repeat' (first | with_reducible exact Below.refl _ _ | with_reducible assumption | with_reducible refine Below.drew ?_ | with_reducible refine Below_drewN ?_ _ | with_reducible refine Below.alloc ?_ ?_ _ | with_reducible refine Below.setCell ?_ ?_ _ | omega | (simp; done) | (simp; omega))), G0.setOther (by simp) _, by simpa using G1.set 4 _⟩
        case measure => simp [intOf]; omega
    · have hjn : j = n.toNat := by omega
      subst hjn
      have hi1 : ¬ i < t.length := by have := hij.out; have := hm.out; omega
      obtain rfl := hown.len_eq
      have hIn : I64 num := I64.small (by omega) (by omega)
      have hIv : I64 ver := I64.small (by omega) (by omega)
      have hrep : orderS.rep (fun b => w.heap.size + 2 ≤ b) wr [.int .i64 2, .int .i64 num, .int .i64 ver, .slice none 0 0, .slice ao (flowsTo t n.toNat).length cap] ⟨2, num, ver, [], flowsTo t n.toNat⟩ :=
        ⟨_, _, _, _, rfl, I64.small (n := 2) (by decide) (by decide), hIn, hIv, rowRep.nil _ _ _ _, hown.row (fun _ h => h.elim) (fun k hk => (hown.lt k hk).1)⟩
      clear hown
      go_wp2_with fail
      refine (wireWrong_c ⟨2, num, ver, [], flowsTo t n.toNat⟩ _ _ _ hrep).mono ?_
      rintro e w5 ⟨rfl, hb5⟩
      have G0 := hB0'.under hb5
      obtain ⟨r1, r2⟩ := G0.cells
      obtain ⟨r3, r4⟩ := (hB1'.under hb5).cells
      have hB5 : Below w.heap.size w w5 := hb.trans (hb5.mono (by omega))
      have hrep5 := orderS.below hrep hb5
      clear hb5 hrep
      by_cases hw : wireWrong ⟨2, num, ver, [], flowsTo t n.toNat⟩ = 0
      · have HW := Lib.hid hw
        have hw' : (wireWrong ⟨2, num, ver, [], flowsTo t n.toNat⟩ != 0) = false := by simp [hw]
        clear hw
        go_wp2
        have G := (((((G0.set 0 (.int .i64 2)).set 1 (.int .i64 num)).set 2 (.int .i64 ver)).set 3 (.slice none 0 0)).set 4 (.slice ao (flowsTo t n.toNat).length cap))
        obtain ⟨z1, z2⟩ := G.cells
        refine bodyPost_ret (v := .tuple #[.agg #[.int .i64 2, .int .i64 num, .int .i64 ver, .slice none 0 0, .slice ao (flowsTo t n.toNat).length cap], .int .i64 0]) (by simp [results, Try.results12, go_sem, z1]) rfl ?_
        refine endsGood_ok HW.out (orderS.mono hrep5 fun g hg hk => ⟨by omega, ?_⟩) ?_
        · exact set5_heap _ _ _ _ _ (by omega)
        · (repeat' (first | with_reducible exact Below.refl _ _ | with_reducible assumption | with_reducible refine Below.drew ?_ | with_reducible refine Below_drewN ?_ _ | with_reducible refine Below.alloc ?_ ?_ _ | with_reducible refine Below.setCell ?_ ?_ _ | omega | (simp; done) | (simp; omega)))
      · have HW := Lib.hid hw
        have hw' : (wireWrong ⟨2, num, ver, [], flowsTo t n.toNat⟩ != 0) = true := by simpa using hw
        clear hw
        go_wp2
        have G := (((((G0.set 0 (.int .i64 0)).set 1 (.int .i64 0)).set 2 (.int .i64 0)).set 3 (.slice none 0 0)).set 4 (.slice none 0 0))
        obtain ⟨z1, z2⟩ := G.cells
        refine bodyPost_ret (v := .tuple #[.agg #[.int .i64 0, .int .i64 0, .int .i64 0, .slice none 0 0, .slice none 0 0], .int .i64 (wireWrong ⟨2, num, ver, [], flowsTo t n.toNat⟩)]) (by simp [results, Try.results12, go_sem, z1]) rfl ?_
        refine endsGood_bad HW.out ?_ 
        (repeat' (first | with_reducible exact Below.refl _ _ | with_reducible assumption | with_reducible refine Below.drew ?_ | with_reducible refine Below_drewN ?_ _ | with_reducible refine Below.alloc ?_ ?_ _ | with_reducible refine Below.setCell ?_ ?_ _ | omega | (simp; done) | (simp; omega)))


set_option maxRecDepth 100000 in
set_option maxHeartbeats 4000000 in
theorem parse_none (k0 k1 k2 k3 k4 k5 c num ver : Int) (t : List Int) (ok : Nat → Prop) (b off cx : Nat) (w : World) (hrow : rowRep byteS ok w (some ⟨b, off, none⟩) cx (k0 :: k1 :: k2 :: k3 :: k4 :: k5 :: t))
    (c0 : w.cell? ⟨b, off, none⟩ = some (.int .u8 k0)) (c1 : w.cell? ⟨b, off + 1, none⟩ = some (.int .u8 k1)) (c2 : w.cell? ⟨b, off + 2, none⟩ = some (.int .u8 k2))
    (c3 : w.cell? ⟨b, off + 3, none⟩ = some (.int .u8 k3)) (c4 : w.cell? ⟨b, off + 4, none⟩ = some (.int .u8 k4)) (c5 : w.cell? ⟨b, off + 5, none⟩ = some (.int .u8 k5))
    (ct : ∀ i (h : i < t.length), w.cell? ⟨b, off + 6 + i, none⟩ = some (.int .u8 t[i]) ∧ 0 ≤ t[i] ∧ t[i] ≤ 255)
    (cl : w.cell? ⟨b, off + (t.length + 6), none⟩ = some (.int .u8 c)) (hcx : t.length + 7 ≤ cx) (hlen : t.length ≤ 9223372036854775800)
    (a0 : 0 ≤ k0) (b0 : k0 ≤ 255) (a1 : 0 ≤ k1) (b1 : k1 ≤ 255) (a2 : 0 ≤ k2) (b2 : k2 ≤ 255) (a3 : 0 ≤ k3) (b3 : k3 ≤ 255) (a4 : 0 ≤ k4) (b4 : k4 ≤ 255) (a5 : 0 ≤ k5) (b5 : k5 ≤ 255)
    (hnum : bits BinOp.or IntKind.i64 (bits BinOp.or IntKind.i64 (k1 * 65536) (k2 * 256)) k3 = num) (hver : bits BinOp.or IntKind.i64 (k4 * 256) k5 = ver) (hn0 : 0 ≤ num) (hn1 : num ≤ 16777215) (hv0 : 0 ≤ ver) (hv1 : ver ≤ 65535)
    (hbl : b < w.heap.size) (hs : (sumB (k0 :: k1 :: k2 :: k3 :: k4 :: k5 :: t) != c) = false) (hk1 : k0 ≠ 1) (hk2 : k0 ≠ 2) (ht : Hid (t.length = 0)) :
    Calls Try.prog 12 #[.slice (some ⟨b, off, none⟩) (t.length + 7) cx] w fun e w' => endsGood ⟨k0, num, ver, [], []⟩ w e w' := by
  have hrow' : ∀ X nq, rowRep byteS ok ((w.alloc X).drewN nq) (some ⟨b, off, none⟩) cx (k0 :: k1 :: k2 :: k3 :: k4 :: k5 :: t) := fun X nq => hrow.below (by (repeat' (first | with_reducible exact Below.refl _ _ | with_reducible assumption | with_reducible refine Below.drew ?_ | with_reducible refine Below_drewN ?_ _ | with_reducible refine Below.alloc ?_ ?_ _ | with_reducible refine Below.setCell ?_ ?_ _ | omega | (simp; done) | (simp; omega))))
  have hlt' : decide ((t.length : Int) + 7 < 7) = false := by rw [decide_eq_false_iff_not]; omega
  have g1 : IntKind.i64.wrap ((t.length : Int) + 7 - 1) = (t.length : Int) + 6 := by rw [IntWalk.i64_in _ (by omega)]; omega
  have g3 : ((t.length : Int) + 6).toNat = t.length + 6 := by omega
  have g2 : (0 : Int) ≤ (t.length : Int) + 6 := by omega
  have g4 : (t.length : Int) + 6 ≤ (cx : Int) := by omega
  have g5 : (t.length : Int) + 6 < (t.length : Int) + 7 := by omega
  have i0 : (0 : Int) < (t.length : Int) + 6 := by omega
  have i1 : (1 : Int) < (t.length : Int) + 6 := by omega
  have i2 : (2 : Int) < (t.length : Int) + 6 := by omega
  have i3 : (3 : Int) < (t.length : Int) + 6 := by omega
  have i4 : (4 : Int) < (t.length : Int) + 6 := by omega
  have i5 : (5 : Int) < (t.length : Int) + 6 := by omega
  have hmm := @run_makeMap Try.prog
  have hlaw : KeyLaw Try.prog 3 (Value.int .i64) := KeyLaw.int Try.underlying3
  have HZ : Hid (∀ w, (zeroValue 3).run Try.prog w = .ok (.int .i64 0) w) := fun w => by kernel_rfl
  have hget := get0 hk1 hk2
  go_enter Try.func12, Try.ntmps12
  go_wp2
  go_quiet ((go_at_call 17; exact Calls.quiet_of_same (sum_n _ _ (by simp) ok _ cx _ (hrow' _ _))))
  go_wp2
  go_region_held3 (fun w' => w'.cell? ⟨b, off, none⟩ = some (.int .u8 k0) ∧ w'.cell? ⟨b, off + 1, none⟩ = some (.int .u8 k1) ∧ w'.cell? ⟨b, off + 2, none⟩ = some (.int .u8 k2) ∧ w'.cell? ⟨b, off + 3, none⟩ = some (.int .u8 k3) ∧ w'.cell? ⟨b, off + 4, none⟩ = some (.int .u8 k4) ∧ w'.cell? ⟨b, off + 5, none⟩ = some (.int .u8 k5)) (go_keep) ((fail))
  rename_i hHeld
  clear hHeld
  clear hrow hrow' i0 i1 i2 i3 i4 i5 g1 g2 g3 g4 g5 hlt'
  clear hk1 hk2
  have ht0 : t.length = 0 := ht.out
  simp only [ht0]
  clear ht0 cl
  go_wp2_with (first
    | (refine wpList_insertM (enc := Value.int .i64) rfl _ _ _ 44 (Or.inl rfl) 3 3 Try.underlying44 hlaw (mapIs.made' _ _ _ (by simp)) 1 (.int .i64 2) rfl rfl rfl ?_; intro w3 hm3 hg3; have hb3 := grown_below (B := w.heap.size + 2) hg3 (fun k hk => by simp at hk; omega) (by simp); obtain ⟨q3, q4⟩ := bcellB hb3)
    | (refine wpList_insertM (enc := Value.int .i64) rfl _ _ _ 44 (Or.inl rfl) 3 3 Try.underlying44 hlaw hm3 2 (.int .i64 1) rfl rfl rfl ?_; go_must (intro w4 hm4 hg4; have hb4 := grown_below (B := w.heap.size + 2) hg4 (fun k hk => by simp at hk; omega) (by have := hb3.size; simp at this; omega); obtain ⟨q5, q6⟩ := bcellB hb4; have hBm : Below w.heap.size w w4 := Below.trans (Below.trans (by (repeat' (first | with_reducible exact Below.refl _ _ | with_reducible assumption | with_reducible refine Below.drew ?_ | with_reducible refine Below_drewN ?_ _ | with_reducible refine Below.alloc ?_ ?_ _ | with_reducible refine Below.setCell ?_ ?_ _ | omega | (simp; done) | (simp; omega)))) (hb3.mono (by omega))) (hb4.mono (by omega)); obtain ⟨q7, q8⟩ := bcellB hBm; have hB0 : blockIs w4 w.heap.size 25 #[.int .i64 0, .int .i64 0, .int .i64 0, .slice none 0 0, .slice none 0 0] := (((((blockIs.new rfl).drewN _).alloc _).alloc _).grown hg3 (by first | (simp; done) | (simp; omega))).grown hg4 (by first | (simp; done) | (simp; omega)); have hB1 : blockIs w4 (w.heap.size + 1) 25 #[.int .i64 k0, .int .i64 num, .int .i64 ver, .slice none 0 0, .slice none 0 0] := (((blockIs.new (by simp)).alloc _).grown hg3 (by first | (simp; done) | (simp; omega))).grown hg4 (by first | (simp; done) | (simp; omega)); obtain ⟨r1, r2⟩ := hB0.cells; obtain ⟨r3, r4⟩ := hB1.cells; clear q3 q4 q5 q6 hb3 hg3 hg4; have hBz := hB0; clear hB0))
    | (refine wpList_lookupM (enc := Value.int .i64) rfl _ _ 44 rfl 3 3 Try.underlying44 hlaw hm4 k0 (.int .i64 0) HZ.out rfl rfl ?_; rw [hget])
    | fail)
  have hB0 : blockIs w4 w.heap.size 25 #[.int .i64 0, .int .i64 0, .int .i64 0, .slice none 0 0, .slice none 0 0] := hBz
  clear hm4 q7 q8 hlaw hget hmm hBz
  go_loopw [7] (fun iv wr => iv = .int .i64 1 ∧ Below w.heap.size w wr ∧ blockIs wr w.heap.size 25 #[.int .i64 0, .int .i64 0, .int .i64 0, .slice none 0 0, .slice none 0 0] ∧
      blockIs wr (w.heap.size + 1) 25 #[.int .i64 k0, .int .i64 num, .int .i64 ver, .slice none 0 0, .slice none 0 0]) (fun iv _ => 0)
  case atStart => exact ⟨rfl, hBm, hB0, hB1⟩
  case round =>
    obtain ⟨rfl, hb, hB0', hB1'⟩ := hrel
    have hsz : w.heap.size + 1 < wr.heap.size := by have := hB1'.lt; omega
    obtain ⟨r1, r2⟩ := hB0'.cells
    obtain ⟨r3, r4⟩ := hB1'.cells
    by_cases hlt : True
    · have hIn : I64 num := I64.small (by omega) (by omega)
      have hIv : I64 ver := I64.small (by omega) (by omega)
      have hrep : orderS.rep (fun b => w.heap.size + 2 ≤ b) wr [.int .i64 k0, .int .i64 num, .int .i64 ver, .slice none 0 0, .slice none 0 0] ⟨k0, num, ver, [], []⟩ :=
        ⟨_, _, _, _, rfl, I64.small (n := k0) (by omega) (by omega), hIn, hIv, rowRep.nil _ _ _ _, rowRep.nil _ _ _ _⟩
      clear hlt
      go_wp2_with fail
      refine (wireWrong_c ⟨k0, num, ver, [], []⟩ _ _ _ hrep).mono ?_
      rintro e w5 ⟨rfl, hb5⟩
      have G0 := hB0'.under hb5
      obtain ⟨r1, r2⟩ := G0.cells
      obtain ⟨r3, r4⟩ := (hB1'.under hb5).cells
      have hB5 : Below w.heap.size w w5 := hb.trans (hb5.mono (by omega))
      have hrep5 := orderS.below hrep hb5
      clear hb5 hrep
      by_cases hw : wireWrong ⟨k0, num, ver, [], []⟩ = 0
      · have HW := Lib.hid hw
        have hw' : (wireWrong ⟨k0, num, ver, [], []⟩ != 0) = false := by simp [hw]
        clear hw
        go_wp2
        have G := (((((G0.set 0 (.int .i64 k0)).set 1 (.int .i64 num)).set 2 (.int .i64 ver)).set 3 (.slice none 0 0)).set 4 (.slice none 0 0))
        obtain ⟨z1, z2⟩ := G.cells
        refine bodyPost_ret (v := .tuple #[.agg #[.int .i64 k0, .int .i64 num, .int .i64 ver, .slice none 0 0, .slice none 0 0], .int .i64 0]) (by simp [results, Try.results12, go_sem, z1]) rfl ?_
        refine endsGood_ok HW.out (orderS.mono hrep5 fun g hg hk => ⟨by omega, ?_⟩) ?_
        · exact set5_heap _ _ _ _ _ (by omega)
        · (repeat' (first | with_reducible exact Below.refl _ _ | with_reducible assumption | with_reducible refine Below.drew ?_ | with_reducible refine Below_drewN ?_ _ | with_reducible refine Below.alloc ?_ ?_ _ | with_reducible refine Below.setCell ?_ ?_ _ | omega | (simp; done) | (simp; omega)))
      · have HW := Lib.hid hw
        have hw' : (wireWrong ⟨k0, num, ver, [], []⟩ != 0) = true := by simpa using hw
        clear hw
        go_wp2
        have G := (((((G0.set 0 (.int .i64 0)).set 1 (.int .i64 0)).set 2 (.int .i64 0)).set 3 (.slice none 0 0)).set 4 (.slice none 0 0))
        obtain ⟨z1, z2⟩ := G.cells
        refine bodyPost_ret (v := .tuple #[.agg #[.int .i64 0, .int .i64 0, .int .i64 0, .slice none 0 0, .slice none 0 0], .int .i64 (wireWrong ⟨k0, num, ver, [], []⟩)]) (by simp [results, Try.results12, go_sem, z1]) rfl ?_
        refine endsGood_bad HW.out ?_ 
        (repeat' (first | with_reducible exact Below.refl _ _ | with_reducible assumption | with_reducible refine Below.drew ?_ | with_reducible refine Below_drewN ?_ _ | with_reducible refine Below.alloc ?_ ?_ _ | with_reducible refine Below.setCell ?_ ?_ _ | omega | (simp; done) | (simp; omega)))

    · exact absurd trivial hlt

end Go.Proofs.Ytpbfcpnenpcobaa
