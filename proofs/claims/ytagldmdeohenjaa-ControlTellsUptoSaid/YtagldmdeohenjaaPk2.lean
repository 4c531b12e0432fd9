/-
  The walks of slices.Index, Contains and Clone at rows of integers.
-/
import Derived.Test.YtagldmdeohenjaaRows
import Derived.Laws.Cover3
import Derived.WalkKit
import Derived.WalkSpells
import Derived.WalkLawsBesides
import Derived.Lib.Hide
import Derived.Deep.LoopGhost
import Derived.Deep.QuietTactic
import Derived.BigQuiet
import Derived.Deep.RegionWith
import Derived.Handy
import Derived.Test.YtagldmdeohenjaaPk1
set_option linter.unusedSimpArgs false
set_option linter.unusedVariables false
namespace Go.St
open Go.RowKit
theorem run_eql_nil {P : Program} (t e : TypeId) (h : P.underlying t = some (.slice e)) (w : World) (a : Option Addr) (l c : Nat) : (binOp .eql t (.slice a l c) (.slice none 0 0)).run P w = .ok (.bool a.isNone) w := by
  show ((do return .bool (← Op.equal t _ _)) : Sem Value).run P w = _
  simp [run_equal_slice_nil w t e a l c h]
def idxI (x : Int) (l : List Int) : Int := match idxIn x l with | none => -1 | some i => i
theorem idx_hit {x : Int} : ∀ {l : List Int} {j : Nat}, x ∉ l.take j → l[j]? = some x → idxIn x l = some j
  | [], j, _, h => by simp at h
  | y :: r, 0, _, h => by simp at h; simp [idxIn, h]
  | y :: r, j + 1, h0, h => by
    simp only [List.take_succ_cons, List.mem_cons, not_or] at h0
    simp only [idxIn]
    rw [if_neg h0.1, idx_hit h0.2 (by simpa using h)]
    rfl
theorem idx_end {x : Int} : ∀ {l : List Int}, x ∉ l → idxIn x l = none
  | [], _ => rfl
  | y :: r, h => by
    simp only [List.mem_cons, not_or] at h
    simp only [idxIn]
    rw [if_neg h.1, idx_end h.2]
    rfl
theorem idxI_hit {x : Int} {l : List Int} {j : Nat} (h : x ∉ l.take j) (hj : j < l.length) (he : (x == l[j]) = true) : idxI x l = j := by
  unfold idxI
  rw [idx_hit h (by rw [List.getElem?_eq_getElem hj]; simpa using (beq_iff_eq.1 he).symm)]
theorem idxI_go {x : Int} {l : List Int} {j : Nat} (h : x ∉ l.take j) (hj : j < l.length) (he : (x == l[j]) = false) : x ∉ l.take (j + 1) := by
  rw [List.take_succ_eq_append_getElem hj]
  intro hm
  rcases List.mem_append.1 hm with hm | hm
  · exact h hm
  · simp at hm; simp [hm] at he
theorem idxI_end {x : Int} {l : List Int} {j : Nat} (h : x ∉ l.take j) (hj : ¬ j < l.length) : idxI x l = -1 := by
  rw [List.take_of_length_le (by omega)] at h
  unfold idxI
  rw [idx_end h]
theorem idxI_mem {x : Int} {l : List Int} : decide (idxI x l ≥ 0) = decide (x ∈ l) := by
  unfold idxI
  cases h : idxIn x l with
  | none => simp [idxIn_none h]
  | some i => simp [List.mem_of_getElem? (idxIn_some h)]
theorem idxI_mem' {x : Int} {l : List Int} : decide (0 ≤ idxI x l) = decide (x ∈ l) := idxI_mem
end Go.St
namespace Go.Proofs.Ytagldmdeohenjaa
open Go.RowKit Go.St
theorem info_int : (Try.prog.info? 3).map (fun i => (i.zero, i.size, i.bytes)) = some (some (.int .i64 0), 1, 8) := by kernel_rfl

set_option maxRecDepth 100000 in
set_option maxHeartbeats 1000000 in
theorem indexI_c (l : List Int) (x : Int) (ok : Nat → Prop) (ax : Option Addr) (cx : Nat) (w : World) (hx : rowRep intS ok w ax cx l) :
    Calls Try.prog 27 #[.slice ax l.length cx, .int .i64 x] w fun e w' => e = .returned (.int .i64 (idxI x l)) ∧ w' = w := by
  have hlx := hx.len_le
  go_enter Try.func27, Try.ntmps27
  go_wp2
  go_loop [5, 8] (fun _ i => ∃ j : Nat, j ≤ l.length ∧ i = .int .i64 j ∧ Hid (x ∉ l.take j)) (fun _ i => l.length - (intOf i).toNat)
  case atStart => exact ⟨0, Nat.zero_le _, rfl, by show x ∉ _; simp⟩
  case round =>
    obtain ⟨j, hj, rfl, hall⟩ := hrel
    by_cases hlt : j < l.length
    · obtain ⟨b, off, rfl, _, hbl, cs, hcs, hce⟩ := hx.get (List.getElem?_eq_getElem hlt)
      obtain ⟨rfl, hi1, hi2⟩ := hcs
      have e0 := hce 0 _ rfl
      clear hce
      simp only [intS, Nat.add_zero, Nat.mul_one] at e0
      have hgo := idxI_go hall.out hlt
      have hhit := idxI_hit hall.out hlt
      generalize l[j] = y at *
      cases p1 : (x == y)
      · have HG := Lib.hid (hgo p1)
        clear hgo hhit
        go_wp2
        go_round
        case rel => exact ⟨j + 1, by omega, by go_num, HG⟩
        case measure => simp [intOf]; omega
      · have HH := Lib.hid (hhit p1)
        clear hgo hhit
        go_wp2
        go_ret; exact ⟨ret_int HH.out.symm, rfl⟩
    · have HE := Lib.hid (idxI_end hall.out hlt)
      go_wp2
      go_ret; exact ⟨ret_int HE.out.symm, rfl⟩

set_option maxRecDepth 100000 in
set_option maxHeartbeats 1000000 in
theorem containsI_c (l : List Int) (x : Int) (ok : Nat → Prop) (ax : Option Addr) (cx : Nat) (w : World) (hx : rowRep intS ok w ax cx l) :
    Calls Try.prog 50 #[.slice ax l.length cx, .int .i64 x] w fun e w' => e = .returned (.bool (decide (x ∈ l))) ∧ w' = w := by
  go_enter Try.func50, Try.ntmps50
  go_wp2_with fail
  refine (indexI_c l x ok ax cx w hx).mono ?_
  rintro e w' ⟨rfl, rfl⟩
  go_wp2
  go_ret; exact ⟨ret_bool idxI_mem', rfl⟩

set_option maxRecDepth 100000 in
set_option maxHeartbeats 1000000 in
theorem cloneI_c (l : List Int) (ok : Nat → Prop) (ax : Option Addr) (cx : Nat) (w : World) (hx : rowRep intS ok w ax cx l) (hn : ax = none → cx = 0) (hsm : l.length ≤ 1000000) :
    Calls Try.prog 39 #[.slice ax l.length cx] w fun e w' => ∃ ao cap, e = .returned (.slice ao l.length cap) ∧ rowRep intS (fun b => w.heap.size ≤ b) w' ao cap l ∧ (ao = none ↔ ax = none) ∧ Below w.heap.size w w' := by
  obtain ⟨i0, hi, hz0, hz1, hz2⟩ := info_parts info_int
  have hlx := hx.len_le
  have hnil := run_eql_nil (P := Try.prog) 26 3 Try.underlying26
  cases ax with
  | none =>
    obtain rfl : l = [] := by
      obtain ⟨_, _, h | ⟨_, _, h, _⟩⟩ := hx
      · exact h
      · cases h
    obtain rfl := hn rfl
    go_enter Try.func39, Try.ntmps39
    go_wp2
    go_ret; exact ⟨none, 0, rfl, rowRep.nil _ _ _ _, by simp, by (repeat' (first | with_reducible exact Below.refl _ _ | with_reducible assumption | with_reducible refine Below.drew ?_ | with_reducible refine Below_drewN ?_ _ | with_reducible refine Below.alloc ?_ ?_ _ | with_reducible refine Below.setCell ?_ ?_ _ | omega | (simp; done) | (simp; omega)))⟩
  | some a =>
    have hown : ownR intS 3 (fun _ => False) w.heap.size (w.alloc (.cells (([] : List Int).map (Value.int .i64)).toArray 3)) (some ⟨w.heap.size, 0, none⟩) 0 0 [] := ownR.lit rfl rfl (Nat.le_refl _) (by decide) (by simp) (fun _ h => h.elim)
    have hlm : l.length ≤ 9223372036854775807 := hlx
    go_enter Try.func39, Try.ntmps39
    go_wp2_with (at_builtin; go_must (refine wpList_appR (sh := intS) rfl _ _ 26 rfl 3 i0 (.int .i64 0) 8 Try.underlying26 hi hz0 hz1 hz2 rfl (by decide) rfl hown rfl rfl ((hx.below (by (repeat' (first | with_reducible exact Below.refl _ _ | with_reducible assumption | with_reducible refine Below.drew ?_ | with_reducible refine Below_drewN ?_ _ | with_reducible refine Below.alloc ?_ ?_ _ | with_reducible refine Below.setCell ?_ ?_ _ | omega | (simp; done) | (simp; omega))))).src) (by simp only [maxLen]; omega) (by omega) (by first | omega | (simp; done) | (simp; omega)) ?_); go_must (
      intro ao1 cap1 w2 hown1 hg1 hbk
      have hb2 := grown_below (B := w.heap.size) hg1 (fun k hk => (hown.lt k hk).1) (by first | omega | (simp; done) | (simp; omega))
      rw [List.nil_append, Nat.zero_add] at hown1))
    have hrow : rowRep intS (fun b => w.heap.size ≤ b) w2 ao1 cap1 l := hown1.row (fun _ h => h.elim) (fun k hk => (hown1.lt k hk).1)
    have hne : ao1 ≠ none := by rintro rfl; simp [blk] at hbk
    go_ret; exact ⟨ao1, cap1, rfl, hrow, by simp [hne], Below.trans (by (repeat' (first | with_reducible exact Below.refl _ _ | with_reducible assumption | with_reducible refine Below.drew ?_ | with_reducible refine Below_drewN ?_ _ | with_reducible refine Below.alloc ?_ ?_ _ | with_reducible refine Below.setCell ?_ ?_ _ | omega | (simp; done) | (simp; omega)))) hb2⟩

set_option maxRecDepth 100000 in
set_option maxHeartbeats 1000000 in
theorem indexP_c (l : List Int) (x : Int) (ok : Nat → Prop) (ax : Option Addr) (cx : Nat) (w : World) (hx : rowRep intS ok w ax cx l) :
    Calls Try.prog 65 #[.slice ax l.length cx, .int .i64 x] w fun e w' => e = .returned (.int .i64 (idxI x l)) ∧ w' = w := by
  have hlx := hx.len_le
  go_enter Try.func65, Try.ntmps65
  go_wp2
  go_loop [5, 8] (fun _ i => ∃ j : Nat, j ≤ l.length ∧ i = .int .i64 j ∧ Hid (x ∉ l.take j)) (fun _ i => l.length - (intOf i).toNat)
  case atStart => exact ⟨0, Nat.zero_le _, rfl, by show x ∉ _; simp⟩
  case round =>
    obtain ⟨j, hj, rfl, hall⟩ := hrel
    by_cases hlt : j < l.length
    · obtain ⟨b, off, rfl, _, hbl, cs, hcs, hce⟩ := hx.get (List.getElem?_eq_getElem hlt)
      obtain ⟨rfl, hi1, hi2⟩ := hcs
      have e0 := hce 0 _ rfl
      clear hce
      simp only [intS, Nat.add_zero, Nat.mul_one] at e0
      have hgo := idxI_go hall.out hlt
      have hhit := idxI_hit hall.out hlt
      generalize l[j] = y at *
      cases p1 : (x == y)
      · have HG := Lib.hid (hgo p1)
        clear hgo hhit
        go_wp2
        go_round
        case rel => exact ⟨j + 1, by omega, by go_num, HG⟩
        case measure => simp [intOf]; omega
      · have HH := Lib.hid (hhit p1)
        clear hgo hhit
        go_wp2
        go_ret; exact ⟨ret_int HH.out.symm, rfl⟩
    · have HE := Lib.hid (idxI_end hall.out hlt)
      go_wp2
      go_ret; exact ⟨ret_int HE.out.symm, rfl⟩

set_option maxRecDepth 100000 in
set_option maxHeartbeats 1000000 in
theorem containsP_c (l : List Int) (x : Int) (ok : Nat → Prop) (ax : Option Addr) (cx : Nat) (w : World) (hx : rowRep intS ok w ax cx l) :
    Calls Try.prog 62 #[.slice ax l.length cx, .int .i64 x] w fun e w' => e = .returned (.bool (decide (x ∈ l))) ∧ w' = w := by
  go_enter Try.func62, Try.ntmps62
  go_wp2_with fail
  refine (indexP_c l x ok ax cx w hx).mono ?_
  rintro e w' ⟨rfl, rfl⟩
  go_wp2
  go_ret; exact ⟨ret_bool idxI_mem', rfl⟩

set_option maxRecDepth 100000 in
set_option maxHeartbeats 1000000 in
theorem cloneP_c (l : List Int) (ok : Nat → Prop) (ax : Option Addr) (cx : Nat) (w : World) (hx : rowRep intS ok w ax cx l) (hn : ax = none → cx = 0) (hsm : l.length ≤ 1000000) :
    Calls Try.prog 52 #[.slice ax l.length cx] w fun e w' => ∃ ao cap, e = .returned (.slice ao l.length cap) ∧ rowRep intS (fun b => w.heap.size ≤ b) w' ao cap l ∧ (ao = none ↔ ax = none) ∧ Below w.heap.size w w' := by
  obtain ⟨i0, hi, hz0, hz1, hz2⟩ := info_parts info_int
  have hlx := hx.len_le
  have hnil := run_eql_nil (P := Try.prog) 92 3 Try.underlying92
  cases ax with
  | none =>
    obtain rfl : l = [] := by
      obtain ⟨_, _, h | ⟨_, _, h, _⟩⟩ := hx
      · exact h
      · cases h
    obtain rfl := hn rfl
    go_enter Try.func52, Try.ntmps52
    go_wp2
    go_ret; exact ⟨none, 0, rfl, rowRep.nil _ _ _ _, by simp, by (repeat' (first | with_reducible exact Below.refl _ _ | with_reducible assumption | with_reducible refine Below.drew ?_ | with_reducible refine Below_drewN ?_ _ | with_reducible refine Below.alloc ?_ ?_ _ | with_reducible refine Below.setCell ?_ ?_ _ | omega | (simp; done) | (simp; omega)))⟩
  | some a =>
    have hown : ownR intS 3 (fun _ => False) w.heap.size (w.alloc (.cells (([] : List Int).map (Value.int .i64)).toArray 3)) (some ⟨w.heap.size, 0, none⟩) 0 0 [] := ownR.lit rfl rfl (Nat.le_refl _) (by decide) (by simp) (fun _ h => h.elim)
    have hlm : l.length ≤ 9223372036854775807 := hlx
    go_enter Try.func52, Try.ntmps52
    go_wp2_with (at_builtin; go_must (refine wpList_appR (sh := intS) rfl _ _ 92 rfl 3 i0 (.int .i64 0) 8 Try.underlying92 hi hz0 hz1 hz2 rfl (by decide) rfl hown rfl rfl ((hx.below (by (repeat' (first | with_reducible exact Below.refl _ _ | with_reducible assumption | with_reducible refine Below.drew ?_ | with_reducible refine Below_drewN ?_ _ | with_reducible refine Below.alloc ?_ ?_ _ | with_reducible refine Below.setCell ?_ ?_ _ | omega | (simp; done) | (simp; omega))))).src) (by simp only [maxLen]; omega) (by omega) (by first | omega | (simp; done) | (simp; omega)) ?_); go_must (
      intro ao1 cap1 w2 hown1 hg1 hbk
      have hb2 := grown_below (B := w.heap.size) hg1 (fun k hk => (hown.lt k hk).1) (by first | omega | (simp; done) | (simp; omega))
      rw [List.nil_append, Nat.zero_add] at hown1))
    have hrow : rowRep intS (fun b => w.heap.size ≤ b) w2 ao1 cap1 l := hown1.row (fun _ h => h.elim) (fun k hk => (hown1.lt k hk).1)
    have hne : ao1 ≠ none := by rintro rfl; simp [blk] at hbk
    go_ret; exact ⟨ao1, cap1, rfl, hrow, by simp [hne], Below.trans (by (repeat' (first | with_reducible exact Below.refl _ _ | with_reducible assumption | with_reducible refine Below.drew ?_ | with_reducible refine Below_drewN ?_ _ | with_reducible refine Below.alloc ?_ ?_ _ | with_reducible refine Below.setCell ?_ ?_ _ | omega | (simp; done) | (simp; omega)))) hb2⟩

end Go.Proofs.Ytagldmdeohenjaa

/-
  The walk of flows.list: what is wrong with switches that a flow names.
-/
set_option linter.unusedSimpArgs false
set_option linter.unusedVariables false
namespace Go.St
theorem lst_go {n src dst c : Int} {l : List Int} {j : Nat} (hj : j < l.length) (h : c = listBad n src dst (l.take j) (l.drop j)) (h1 : ¬ (l[j] < 0 ∨ n ≤ l[j])) (h2 : ¬ (l[j] = src ∨ l[j] = dst)) (h3 : l[j] ∉ l.take j) :
    c = listBad n src dst (l.take (j + 1)) (l.drop (j + 1)) := by
  rw [h, List.drop_eq_getElem_cons hj, listBad, if_neg h1, if_neg h2, if_neg h3, List.take_succ_eq_append_getElem hj]
theorem lst_1 {n src dst c : Int} {l : List Int} {j : Nat} (hj : j < l.length) (h : c = listBad n src dst (l.take j) (l.drop j)) (h1 : l[j] < 0 ∨ n ≤ l[j]) : c = 6 := by
  rw [h, List.drop_eq_getElem_cons hj, listBad, if_pos h1]
theorem lst_2 {n src dst c : Int} {l : List Int} {j : Nat} (hj : j < l.length) (h : c = listBad n src dst (l.take j) (l.drop j)) (h1 : ¬ (l[j] < 0 ∨ n ≤ l[j])) (h2 : l[j] = src ∨ l[j] = dst) : c = 8 := by
  rw [h, List.drop_eq_getElem_cons hj, listBad, if_neg h1, if_pos h2]
theorem lst_3 {n src dst c : Int} {l : List Int} {j : Nat} (hj : j < l.length) (h : c = listBad n src dst (l.take j) (l.drop j)) (h1 : ¬ (l[j] < 0 ∨ n ≤ l[j])) (h2 : ¬ (l[j] = src ∨ l[j] = dst)) (h3 : l[j] ∈ l.take j) : c = 7 := by
  rw [h, List.drop_eq_getElem_cons hj, listBad, if_neg h1, if_neg h2, if_pos h3]
theorem lst_end {n src dst c : Int} {l : List Int} {j : Nat} (hj : ¬ j < l.length) (h : c = listBad n src dst (l.take j) (l.drop j)) : c = 0 := by
  rw [h, List.drop_of_length_le (by omega)]; rfl
end Go.St
namespace Go.Proofs.Ytagldmdeohenjaa
open Go.RowKit Go.St

set_option maxRecDepth 100000 in
set_option maxHeartbeats 4000000 in
theorem flowList_c (l : List Int) (n src dst : Int) (ok : Nat → Prop) (ax : Option Addr) (cx b o : Nat) (w : World) (hx : rowRep intS ok w ax cx l) (f0 : w.cell? ⟨b, o, none⟩ = some (.int .i64 src)) (f1 : w.cell? ⟨b, o + 1, none⟩ = some (.int .i64 dst)) :
    Calls Try.prog 47 #[.slice ax l.length cx, .pointer (some ⟨b, o, none⟩), .int .i64 n] w fun e w' => e = .returned (.int .i64 (listBad n src dst [] l)) ∧ w' = w := by
  have hlx := hx.len_le
  have hcx := hx.1
  have hst : Hid (listBad n src dst [] l = listBad n src dst (l.take 0) (l.drop 0)) := rfl
  generalize listBad n src dst [] l = c at *
  go_enter Try.func47, Try.ntmps47
  go_wp2
  go_loop [7, 8, 11] (fun _ _ i => ∃ j : Nat, j ≤ l.length ∧ i = .int .i64 j ∧ Hid (c = listBad n src dst (l.take j) (l.drop j))) (fun _ _ i => l.length - (intOf i).toNat)
  case atStart => exact ⟨0, Nat.zero_le _, rfl, hst⟩
  case round =>
    obtain ⟨j, hj, rfl, hall⟩ := hrel
    by_cases hlt : j < l.length
    · obtain ⟨g, off, rfl, _, hbl, cs, hcs, hce⟩ := hx.get (List.getElem?_eq_getElem hlt)
      obtain ⟨rfl, _⟩ := hcs
      have e0 := hce 0 _ rfl
      clear hce
      simp only [intS, Nat.add_zero, Nat.mul_one] at e0
      have b0 : (0 : Int) ≤ (j : Int) := by omega
      have b1 : (j : Int) < (l.length : Int) := by omega
      have b2 : (j : Int) ≤ (cx : Int) := by omega
      have b3 : ((j : Int)).toNat = j := by omega
      have hcon : Calls Try.prog 50 #[.slice (some ⟨g, off, none⟩) j cx, .int .i64 l[j]] w fun e w' => e = .returned (.bool (decide (l[j] ∈ l.take j))) ∧ w' = w := by
        have := containsI_c (l.take j) l[j] ok _ cx w (hx.take j)
        rwa [List.length_take, Nat.min_eq_left hj] at this
      have g0 := lst_go (c := c) hlt hall.out
      have g1 := lst_1 (c := c) hlt hall.out
      have g2 := lst_2 (c := c) hlt hall.out
      have g3 := lst_3 (c := c) hlt hall.out
      clear hall
      generalize l[j] = x at *
      by_cases p1 : x < 0
      · have HH := Lib.hid (g1 (.inl p1))
        clear g0 g1 g2 g3 hcon
        go_wp2
        go_ret; exact ⟨ret_int HH.out.symm, rfl⟩
      by_cases p2 : n ≤ x
      · have HH := Lib.hid (g1 (.inr p2))
        clear g0 g1 g2 g3 hcon
        go_wp2
        go_ret; exact ⟨ret_int HH.out.symm, rfl⟩
      have p12 : ¬ (x < 0 ∨ n ≤ x) := by omega
      cases p3 : (x == src)
      case true =>
        have HH := Lib.hid (g2 p12 (.inl (beq_iff_eq.1 p3)))
        clear g0 g1 g2 g3 hcon p12
        go_wp2
        go_ret; exact ⟨ret_int HH.out.symm, rfl⟩
      cases p4 : (x == dst)
      case true =>
        have HH := Lib.hid (g2 p12 (.inr (beq_iff_eq.1 p4)))
        clear g0 g1 g2 g3 hcon p12
        go_wp2
        go_ret; exact ⟨ret_int HH.out.symm, rfl⟩
      have p34 : ¬ (x = src ∨ x = dst) := by
        rintro (h | h)
        · exact (beq_eq_false_iff_ne.1 p3) h
        · exact (beq_eq_false_iff_ne.1 p4) h
      by_cases p5 : x ∈ l.take j
      · have HH := Lib.hid (g3 p12 p34 p5)
        have hd : decide (x ∈ l.take j) = true := decide_eq_true p5
        rw [hd] at hcon
        clear g0 g1 g2 g3 p12 p34 p5 hd
        have HC := Lib.hid hcon
        clear hcon
        go_wp2_with fail
        refine HC.out.mono ?_
        rintro e w1 ⟨rfl, rfl⟩
        go_wp2
        go_ret; exact ⟨ret_int HH.out.symm, rfl⟩
      · have HH := Lib.hid (g0 p12 p34 p5)
        have hd : decide (x ∈ l.take j) = false := decide_eq_false p5
        rw [hd] at hcon
        clear g0 g1 g2 g3 p12 p34 p5 hd
        have HC := Lib.hid hcon
        clear hcon
        go_wp2_with fail
        refine HC.out.mono ?_
        rintro e w1 ⟨rfl, rfl⟩
        go_wp2
        go_round
        case rel => exact ⟨j + 1, by omega, by go_num, HH⟩
        case measure => simp [intOf]; omega
    · have HE := Lib.hid (lst_end hlt hall.out)
      have b1 : ¬ (j : Int) < (l.length : Int) := by omega
      clear hall
      go_wp2
      go_ret; exact ⟨ret_int HE.out.symm, rfl⟩

end Go.Proofs.Ytagldmdeohenjaa

/-
  The walks of flows.Wrong, and of the closure that it hands to slices.ContainsFunc.
-/
set_option linter.unusedSimpArgs false
set_option linter.unusedVariables false
namespace Go.St
open Go.RowKit
theorem any_go {l no : List Int} {j : Nat} (hj : j < l.length) (h : ∀ x ∈ l.take j, x ∉ no) (h1 : l[j] ∉ no) : ∀ x ∈ l.take (j + 1), x ∉ no := by
  intro x hx
  rw [List.take_succ_eq_append_getElem hj] at hx
  rcases List.mem_append.1 hx with hx | hx
  · exact h x hx
  · simp at hx; exact hx ▸ h1
theorem any_hit {l no : List Int} {j : Nat} (hj : j < l.length) (h1 : l[j] ∈ no) : l.any (fun s => decide (s ∈ no)) = true := List.any_eq_true.2 ⟨l[j], List.getElem_mem hj, by simpa using h1⟩
theorem any_end {l no : List Int} {j : Nat} (hj : ¬ j < l.length) (h : ∀ x ∈ l.take j, x ∉ no) : l.any (fun s => decide (s ∈ no)) = false := by
  rw [List.take_of_length_le (by omega)] at h
  rw [List.any_eq_false]
  intro x hx; simpa using h x hx
theorem quiet_of_same2 {P : Program} {f : FuncId} {args : Array Value} {w : World} {k n : Nat} {v : Value}
    (h : Calls P f args (w.drewN (k + n)) fun e w' => e = .returned v ∧ w' = w.drewN (k + n)) : Calls P f args (w.drewN (k + n)) fun e w'' => e = .returned v ∧ ∃ m, w'' = w.drewN (k + m) :=
  h.mono fun _ _ ⟨he, hm⟩ => ⟨he, n, hm⟩
theorem fls_go {n : Int} {l : List Flow} {c : Int × Int} {j : Nat} (hj : j < l.length) (h : c = flowsBad n j (l.drop j)) (h1 : flowBad n l[j] = 0) : c = flowsBad n ((j + 1 : Nat) : Int) (l.drop (j + 1)) := by
  rw [h, List.drop_eq_getElem_cons hj, flowsBad, if_pos h1]; rfl
theorem fls_hit {n : Int} {l : List Flow} {c : Int × Int} {j : Nat} (hj : j < l.length) (h : c = flowsBad n j (l.drop j)) {e : Int} (h1 : flowBad n l[j] = e) (he : e ≠ 0) : c = (e, (j : Int)) := by
  rw [h, List.drop_eq_getElem_cons hj, flowsBad, h1, if_neg he]
theorem fls_end {n : Int} {l : List Flow} {c : Int × Int} {j : Nat} (hj : ¬ j < l.length) (h : c = flowsBad n j (l.drop j)) : c = (0, 0) := by
  rw [h, List.drop_of_length_le (by omega)]; rfl
end Go.St
namespace Go.Proofs.Ytagldmdeohenjaa
open Go.RowKit Go.St

set_option maxRecDepth 100000 in
set_option maxHeartbeats 2000000 in
theorem inNo_c (x : Int) (no : List Int) (ok : Nat → Prop) (na : Option Addr) (nc p b o : Nat) (w : World) (hp : w.cell? ⟨p, 0, none⟩ = some (.pointer (some ⟨b, o, none⟩))) (hf : w.cell? ⟨b, o + 3, none⟩ = some (.slice na no.length nc)) (hn : rowRep intS ok w na nc no) :
    Calls Try.prog 49 #[.int .i64 x, .pointer (some ⟨p, 0, none⟩)] w fun e w' => e = .returned (.bool (decide (x ∈ no))) ∧ w' = w := by
  go_enter Try.func49, Try.ntmps49
  go_wp2_with fail
  refine (containsI_c no x ok na nc w hn).mono ?_
  rintro e w' ⟨rfl, rfl⟩
  go_wp2
  go_ret; exact ⟨rfl, rfl⟩

set_option maxRecDepth 100000 in
set_option maxHeartbeats 2000000 in
theorem indexNo_c (l no : List Int) (ok ok' : Nat → Prop) (ax na : Option Addr) (cx nc p b o : Nat) (w : World) (hx : rowRep intS ok w ax cx l) (hp : w.cell? ⟨p, 0, none⟩ = some (.pointer (some ⟨b, o, none⟩))) (hf : w.cell? ⟨b, o + 3, none⟩ = some (.slice na no.length nc)) (hn : rowRep intS ok' w na nc no) :
    Calls Try.prog 60 #[.slice ax l.length cx, .func (.func 49) #[] #[.pointer (some ⟨p, 0, none⟩)]] w fun e w' => ∃ k : Int, e = .returned (.int .i64 k) ∧ decide (0 ≤ k) = l.any (fun s => decide (s ∈ no)) ∧ w' = w := by
  have hlx := hx.len_le
  go_enter Try.func60, Try.ntmps60
  go_wp2
  go_loop [5, 8] (fun _ i => ∃ j : Nat, j ≤ l.length ∧ i = .int .i64 j ∧ Hid (∀ x ∈ l.take j, x ∉ no)) (fun _ i => l.length - (intOf i).toNat)
  case atStart => exact ⟨0, Nat.zero_le _, rfl, by show ∀ x ∈ _, _; simp⟩
  case round =>
    obtain ⟨j, hj, rfl, hall⟩ := hrel
    by_cases hlt : j < l.length
    · obtain ⟨g, off, rfl, _, hbl, cs, hcs, hce⟩ := hx.get (List.getElem?_eq_getElem hlt)
      obtain ⟨rfl, _⟩ := hcs
      have e0 := hce 0 _ rfl
      clear hce
      simp only [intS, Nat.add_zero, Nat.mul_one] at e0
      have b0 : (0 : Int) ≤ (j : Int) := by omega
      have b1 : (j : Int) < (l.length : Int) := by omega
      have g1 := any_go hlt hall.out
      have g2 := any_hit (no := no) hlt
      clear hall
      generalize l[j] = x at *
      by_cases p5 : x ∈ no
      · have HH := Lib.hid (g2 p5)
        have hd : decide (x ∈ no) = true := decide_eq_true p5
        have HC := Lib.hid (inNo_c x no ok' na nc p b o w hp hf hn)
        rw [hd] at HC
        clear g1 g2 p5 hd
        go_wp2_with fail
        refine HC.out.mono ?_
        rintro e w1 ⟨rfl, rfl⟩
        go_wp2
        go_ret; exact ⟨j, rfl, by rw [HH.out]; simp, rfl⟩
      · have HH := Lib.hid (g1 p5)
        have hd : decide (x ∈ no) = false := decide_eq_false p5
        have HC := Lib.hid (inNo_c x no ok' na nc p b o w hp hf hn)
        rw [hd] at HC
        clear g1 g2 p5 hd
        go_wp2_with fail
        refine HC.out.mono ?_
        rintro e w1 ⟨rfl, rfl⟩
        go_wp2
        go_round
        case rel => exact ⟨j + 1, by omega, by go_num, HH⟩
        case measure => simp [intOf]; omega
    · have HE := Lib.hid (any_end hlt hall.out)
      have b1 : ¬ (j : Int) < (l.length : Int) := by omega
      clear hall
      go_wp2
      go_ret; exact ⟨-1, rfl, by rw [HE.out]; rfl, rfl⟩

set_option maxRecDepth 100000 in
set_option maxHeartbeats 2000000 in
theorem containsNo_c (l no : List Int) (ok ok' : Nat → Prop) (ax na : Option Addr) (cx nc p b o : Nat) (w : World) (hx : rowRep intS ok w ax cx l) (hp : w.cell? ⟨p, 0, none⟩ = some (.pointer (some ⟨b, o, none⟩))) (hf : w.cell? ⟨b, o + 3, none⟩ = some (.slice na no.length nc)) (hn : rowRep intS ok' w na nc no) :
    Calls Try.prog 48 #[.slice ax l.length cx, .func (.func 49) #[] #[.pointer (some ⟨p, 0, none⟩)]] w fun e w' => e = .returned (.bool (l.any (fun s => decide (s ∈ no)))) ∧ w' = w := by
  go_enter Try.func48, Try.ntmps48
  go_wp2_with fail
  refine (indexNo_c l no ok ok' ax na cx nc p b o w hx hp hf hn).mono ?_
  rintro e w' ⟨k, rfl, hk, rfl⟩
  have HK := Lib.hid hk
  clear hk
  go_wp2
  go_ret; exact ⟨ret_bool HK.out, rfl⟩

end Go.Proofs.Ytagldmdeohenjaa

/-
  The walk of package topo's Cost.
-/
set_option linter.unusedSimpArgs false
set_option linter.unusedVariables false
namespace Go.St
theorem cost_go {ls : List Link} {a b c : Int} {j : Nat} (hj : j < ls.length) (h : c = costIn a b (ls.drop j)) (hl : linkIs a b ls[j] = false) : c = costIn a b (ls.drop (j + 1)) := by
  rw [h, List.drop_eq_getElem_cons hj]; simp [costIn, hl]
theorem cost_hit {ls : List Link} {a b c : Int} {j : Nat} (hj : j < ls.length) (h : c = costIn a b (ls.drop j)) (hl : linkIs a b ls[j] = true) : c = ls[j].cost := by
  rw [h, List.drop_eq_getElem_cons hj]; simp [costIn, hl]
theorem cost_end {ls : List Link} {a b c : Int} {j : Nat} (hj : ¬ j < ls.length) (h : c = costIn a b (ls.drop j)) : c = 0 := by
  rw [h, List.drop_of_length_le (by omega)]; rfl
end Go.St
namespace Go.Proofs.Ytagldmdeohenjaa
open Go.RowKit Go.St

set_option maxRecDepth 100000 in
set_option maxHeartbeats 4000000 in
theorem cost_c (t : Topo) (cs : List Value) (ok : Nat → Prop) (a b : Int) (w : World) (h : topoS.rep ok w cs t) :
    Calls Try.prog 61 #[.agg cs.toArray, .int .i64 a, .int .i64 b] w fun e w' => e = .returned (.int .i64 (costOf t a b)) ∧ Below w.heap.size w w' := by
  obtain ⟨la, lc, rfl, hn, hr⟩ := h
  obtain ⟨n, ls⟩ := t
  dsimp only at *
  have hlx := hr.len_le
  have hst : Hid (costOf ⟨n, ls⟩ a b = costIn a b (ls.drop 0)) := rfl
  generalize costOf ⟨n, ls⟩ a b = c at *
  go_enter Try.func61, Try.ntmps61
  go_wp2
  go_loopw [8, 12] (fun _ i wr => ∃ j : Nat, j ≤ ls.length ∧ i = .int .i64 j ∧ Hid (c = costIn a b (ls.drop j)) ∧ Below w.heap.size w wr) (fun _ i _ => ls.length - (intOf i).toNat)
  case atStart => exact ⟨0, Nat.zero_le _, rfl, hst, by (repeat' (first | with_reducible exact Below.refl _ _ | with_reducible assumption | with_reducible refine Below.drew ?_ | with_reducible refine Below_drewN ?_ _ | with_reducible refine Below.alloc ?_ ?_ _ | with_reducible refine Below.setCell ?_ ?_ _ | omega | (simp; done) | (simp; omega)))⟩
  case round =>
    obtain ⟨j, hj, rfl, hall, hb⟩ := hrel
    have hsz := hb.size
    by_cases hlt : j < ls.length
    · obtain ⟨g, off, rfl, _, hbl, cs, hcs, hce⟩ := hr.get (List.getElem?_eq_getElem hlt)
      obtain ⟨rfl, _⟩ := hcs
      have e0 := cell_at hb hbl (hce 0 _ rfl)
      have e1 := cell_at hb hbl (hce 1 _ rfl)
      have e2 := cell_at hb hbl (hce 2 _ rfl)
      clear hce
      simp only [linkS, Nat.add_zero] at e0 e1 e2
      have b0 : (0 : Int) ≤ (j : Int) := by omega
      have b1 : (j : Int) < (ls.length : Int) := by omega
      have hgo := cost_go (c := c) hlt hall.out
      have hhit := cost_hit (c := c) hlt hall.out
      generalize hx : ls[j] = x at *
      obtain ⟨xa, xb, xc⟩ := x
      simp only [linkIs] at hgo hhit
      dsimp only at *
      clear hx hall
      cases p1 : (xa == a) <;> cases p2 : (xb == b) <;> cases p3 : (xa == b) <;> cases p4 : (xb == a) <;> (first | (have HG := Lib.hid (hgo (by simp only [p1, p2, p3, p4]; rfl))) | (have HH := Lib.hid (hhit (by simp only [p1, p2, p3, p4]; rfl)))) <;> clear hgo hhit <;> go_wp2
      all_goals first
        | (case roundEnd =>
            go_roundw
            case rel => exact ⟨j + 1, by omega, by go_num, HG, by (repeat' (first | with_reducible exact Below.refl _ _ | with_reducible assumption | with_reducible refine Below.drew ?_ | with_reducible refine Below_drewN ?_ _ | with_reducible refine Below.alloc ?_ ?_ _ | with_reducible refine Below.setCell ?_ ?_ _ | omega | (simp; done) | (simp; omega)))⟩
            case measure => simp [intOf]; omega)
        | (go_ret; exact ⟨ret_int HH.out.symm, by (repeat' (first | with_reducible exact Below.refl _ _ | with_reducible assumption | with_reducible refine Below.drew ?_ | with_reducible refine Below_drewN ?_ _ | with_reducible refine Below.alloc ?_ ?_ _ | with_reducible refine Below.setCell ?_ ?_ _ | omega | (simp; done) | (simp; omega)))⟩)
    · have HE := Lib.hid (cost_end hlt hall.out)
      have b1 : ¬ (j : Int) < (ls.length : Int) := by omega
      clear hall
      go_wp2
      go_ret; exact ⟨ret_int HE.out.symm, by (repeat' (first | with_reducible exact Below.refl _ _ | with_reducible assumption | with_reducible refine Below.drew ?_ | with_reducible refine Below_drewN ?_ _ | with_reducible refine Below.alloc ?_ ?_ _ | with_reducible refine Below.setCell ?_ ?_ _ | omega | (simp; done) | (simp; omega)))⟩

end Go.Proofs.Ytagldmdeohenjaa

/-
  The walk of package topo's Length.
-/
set_option linter.unusedSimpArgs false
set_option linter.unusedVariables false
namespace Go.St
open Go.RowKit
theorem len_bad {t : Topo} {p : List Int} {acc : Int} {c : Int × Bool} {j : Nat} (hj : j < p.length) (h : c = lengthFrom t (p.take j) acc (p.drop j)) (h1 : p[j] < 0 ∨ t.n ≤ p[j] ∨ p[j] ∈ p.take j) : c = (0, false) := by
  rw [h, List.drop_eq_getElem_cons hj, lengthFrom, if_pos h1]
theorem take_last {p : List Int} {j : Nat} (h0 : 0 < j) (hj : j < p.length) : (p.take j).getLast? = some (p[j - 1]'(by omega)) := by
  rw [List.getLast?_take, if_neg (by omega), List.getElem?_eq_getElem (by omega)]; rfl
theorem len_first {t : Topo} {p : List Int} {acc : Int} {c : Int × Bool} (hj : 0 < p.length) (h : c = lengthFrom t (p.take 0) acc (p.drop 0)) (h1 : ¬ (p[0] < 0 ∨ t.n ≤ p[0] ∨ p[0] ∈ p.take 0)) : c = lengthFrom t (p.take 1) acc (p.drop 1) := by
  rw [h, List.drop_eq_getElem_cons hj, lengthFrom, if_neg h1]
  cases p with
  | nil => simp at hj
  | cons a r => rfl
theorem len_nolink {t : Topo} {p : List Int} {acc : Int} {c : Int × Bool} {j : Nat} (h0 : 0 < j) (hj : j < p.length) (h : c = lengthFrom t (p.take j) acc (p.drop j)) (h1 : ¬ (p[j] < 0 ∨ t.n ≤ p[j] ∨ p[j] ∈ p.take j)) (h2 : costOf t (p[j - 1]'(by omega)) p[j] = 0) : c = (0, false) := by
  rw [h, List.drop_eq_getElem_cons hj, lengthFrom, if_neg h1, take_last h0 hj]
  dsimp only
  rw [if_pos h2]
theorem len_go {t : Topo} {p : List Int} {acc : Int} {c : Int × Bool} {j : Nat} (h0 : 0 < j) (hj : j < p.length) (h : c = lengthFrom t (p.take j) acc (p.drop j)) (h1 : ¬ (p[j] < 0 ∨ t.n ≤ p[j] ∨ p[j] ∈ p.take j)) (h2 : ¬ costOf t (p[j - 1]'(by omega)) p[j] = 0) :
    c = lengthFrom t (p.take (j + 1)) (IntKind.i64.wrap (acc + costOf t (p[j - 1]'(by omega)) p[j])) (p.drop (j + 1)) := by
  rw [h, List.drop_eq_getElem_cons hj, lengthFrom, if_neg h1, take_last h0 hj]
  dsimp only
  rw [if_neg h2, List.take_succ_eq_append_getElem hj]
theorem len_end {t : Topo} {p : List Int} {acc : Int} {c : Int × Bool} {j : Nat} (hj : ¬ j < p.length) (h : c = lengthFrom t (p.take j) acc (p.drop j)) : c = (acc, decide (0 < p.length)) := by
  rw [h, List.drop_of_length_le (by omega), List.take_of_length_le (by omega)]
  cases p <;> simp [lengthFrom]

def SL (tb pb o : Nat) (n : Int) (la : Option Addr) (ll lc : Nat) (q : Int) (w : World) : Prop :=
  w.cell? ⟨tb, 0, none⟩ = some (.int .i64 n) ∧ w.cell? ⟨tb, 1, none⟩ = some (.slice la ll lc) ∧ w.cell? ⟨pb, o, none⟩ = some (.int .i64 q)
theorem SL.keep {B tb pb o : Nat} {n : Int} {la : Option Addr} {ll lc : Nat} {q : Int} {w w' : World} (h : SL tb pb o n la ll lc q w) (hb : Below B w w') (h1 : tb < B) (h2 : pb < B) : SL tb pb o n la ll lc q w' :=
  ⟨cell_at hb h1 h.1, cell_at hb h1 h.2.1, cell_at hb h2 h.2.2⟩
end Go.St
namespace Go.Proofs.Ytagldmdeohenjaa
open Go.RowKit Go.St
end Go.Proofs.Ytagldmdeohenjaa
