/-
  The walks of slices.Grow, Concat and Compact at rules.
-/
import Derived.Test.YtcfcdembhjnjfaaRowR
import Derived.Test.YtcfcdembhjnjfaaSorts
import Derived.Test.YtcfcdembhjnjfaaSameR
import Derived.WalkKit
import Derived.WalkSpells
import Derived.WalkLawsBesides
import Derived.Lib.Hide
import Derived.Deep.LoopGhost
import Derived.Deep.QuietTactic
import Derived.BigQuiet
import Derived.Deep.RegionWith
import Derived.Handy
set_option linter.unusedSimpArgs false
set_option linter.unusedVariables false
namespace Go.St
theorem ret_slice {a : Option Addr} {n m c : Nat} (h : n = m) : Ending.returned (.slice a n c) = .returned (.slice a m c) := by rw [h]
theorem RR.drewN {w : World} {g : Nat} {t : TypeId} {xs : List Rule} {junk : List Value} (h : RR w g t xs junk) (n : Nat) : RR (w.drewN n) g t xs junk := ⟨h.blk.drewN n, h.rng⟩
theorem Near.drewN {g : Nat} {a b : World} (h : Near g a b) (n : Nat) : Near g a (b.drewN n) := ⟨h.os, h.tape, h.output, h.size, h.block⟩
/-- the second loop of Compact: what is kept, then what was there -/
def Cmp (xs : List Rule) (m kk : Nat) (zs : List Rule) : Prop := zs.take kk = comp (xs.take m) ∧ kk < m ∧ 1 ≤ kk ∧ zs.length = xs.length ∧ ∀ i, kk ≤ i → zs[i]? = xs[i]?
theorem compGo_snoc : ∀ (l : List Rule) (p q r : Rule), (p :: l).getLast? = some q → compGo p (l ++ [r]) = if r = q then compGo p l else compGo p l ++ [r]
  | [], p, q, r, h => by
    obtain rfl : p = q := by simpa using h
    simp only [List.nil_append, compGo]
  | x :: l, p, q, r, h => by
    have h' : (x :: l).getLast? = some q := by rw [List.getLast?_cons_cons] at h; exact h
    have ih := compGo_snoc l x q r h'
    simp only [List.cons_append, compGo]
    rw [ih]
    by_cases e1 : x = p <;> by_cases e2 : r = q <;> simp [e1, e2]
theorem comp_snoc (l : List Rule) (q r : Rule) (h : l.getLast? = some q) : comp (l ++ [r]) = if r = q then comp l else comp l ++ [r] := by
  cases l with
  | nil => simp at h
  | cons p l =>
    show p :: compGo p (l ++ [r]) = _
    rw [compGo_snoc l p q r h]
    split <;> rfl
theorem comp_step {xs : List Rule} {m : Nat} {q r : Rule} (hm : 1 ≤ m) (hq : xs[m - 1]? = some q) (hr : xs[m]? = some r) : comp (xs.take (m + 1)) = if r = q then comp (xs.take m) else comp (xs.take m) ++ [r] := by
  have hl := (List.getElem?_eq_some_iff.1 hr).1
  rw [List.take_add_one, hr]
  refine comp_snoc _ q r ?_
  rw [List.getLast?_eq_getElem?, List.length_take, show min m xs.length - 1 = m - 1 by omega, List.getElem?_take, if_pos (by omega), hq]
theorem comp_one (xs : List Rule) : comp (xs.take 1) = xs.take 1 := by
  cases xs <;> rfl
theorem comp_same {xs : List Rule} {k : Nat} {q r : Rule} (h : comp (xs.take k) = xs.take k) (hk : 1 ≤ k) (hq : xs[k - 1]? = some q) (hr : xs[k]? = some r) (hne : r ≠ q) : comp (xs.take (k + 1)) = xs.take (k + 1) := by
  rw [comp_step hk hq hr, if_neg hne, h, List.take_add_one, hr]; rfl
theorem Cmp.start {xs : List Rule} {k : Nat} {q : Rule} (h : comp (xs.take k) = xs.take k) (hk : 1 ≤ k) (hq : xs[k - 1]? = some q) (hr : xs[k]? = some q) : Cmp xs (k + 1) k xs :=
  ⟨by rw [comp_step hk hq hr, if_pos rfl, h], by omega, hk, rfl, fun _ _ => rfl⟩
theorem Cmp.skip {xs zs : List Rule} {m kk : Nat} {q : Rule} (h : Cmp xs m kk zs) (hq : xs[m - 1]? = some q) (hr : xs[m]? = some q) : Cmp xs (m + 1) kk zs := by
  obtain ⟨h1, h2, h3, h4, h5⟩ := h
  exact ⟨by rw [comp_step (by omega) hq hr, if_pos rfl, h1], by omega, h3, h4, h5⟩
theorem Cmp.keep {xs zs : List Rule} {m kk : Nat} {q r : Rule} (h : Cmp xs m kk zs) (hq : xs[m - 1]? = some q) (hr : xs[m]? = some r) (hne : r ≠ q) : Cmp xs (m + 1) (kk + 1) (zs.set kk r) := by
  obtain ⟨h1, h2, h3, h4, h5⟩ := h
  have hm := (List.getElem?_eq_some_iff.1 hr).1
  refine ⟨?_, by omega, by omega, by simpa using h4, fun i hi => ?_⟩
  · rw [comp_step (by omega) hq hr, if_neg hne, List.take_add_one, List.getElem?_set_self (by omega), List.take_set_of_le (Nat.le_refl _), h1]; rfl
  · rw [List.getElem?_set_ne (by omega)]; exact h5 i (by omega)
theorem Cmp.done {xs zs : List Rule} {m kk : Nat} (h : Cmp xs m kk zs) (hm : xs.length ≤ m) : zs.take kk = comp xs ∧ (comp xs).length = min kk zs.length := by
  have h1 := h.1
  rw [List.take_of_length_le hm] at h1
  exact ⟨h1, by rw [← h1]; simp⟩
theorem comp_short (xs : List Rule) (h : xs.length < 2) : comp xs = xs := by
  match xs, h with
  | [], _ => rfl
  | [x], _ => rfl
end Go.St
namespace Go.Proofs.Ytcfcdembhjnjfaa
open Go.RowKit Go.St

theorem info_rules : (Try.prog.info? 28).map (fun i => (i.zero, i.size, i.bytes)) = some (some (.agg #[.int .i64 0, .int .i64 0, .int .i64 0]), 3, 24) := by kernel_rfl
theorem eql_rule (x y : Rule) (w : World) : (binOp .eql 28 (.agg #[.int .i64 x.ver, .int .i64 x.flow, .int .i64 x.next]) (.agg #[.int .i64 y.ver, .int .i64 y.flow, .int .i64 y.next])).run Try.prog w = .ok (.bool (decide (x = y))) w := by
  obtain ⟨a, b, c⟩ := x
  obtain ⟨d, e, f⟩ := y
  rw [run_eql_struct, run_equalIn_agg _ _ _ _ _ (by kernel_rfl) (by kernel_rfl)]
  by_cases h1 : a = d <;> by_cases h2 : b = e <;> by_cases h3 : c = f <;> simp [go_sem, h1, h2, h3, Rule.mk.injEq]

set_option maxRecDepth 100000 in
set_option maxHeartbeats 2000000 in
theorem growNil_c (n : Nat) (hn : 0 < n) (hbig : n * 24 ≤ 281474976710656) (w : World) :
    Calls Try.prog 50 #[.slice none 0 0, .int .i64 n] w fun e w' => ∃ cap, e = .returned (.slice (some ⟨w.heap.size, 0, none⟩) 0 cap) ∧ n ≤ cap ∧ (∀ ok : Nat → Prop, (∀ b, ok b → b < w.heap.size) → ownR ruleS 28 ok w.heap.size w' (some ⟨w.heap.size, 0, none⟩) 0 cap []) ∧ Below w.heap.size w w' := by
  obtain ⟨i0, hi, hz0, hz1, hz2⟩ := info_parts info_rules
  have hrz : ∀ ty, (Builtin.append_ #[22, 3] ty #[.slice none 0 0, .int .i64 n]).run Try.prog w =
      .ok (.slice (some ⟨w.heap.size, 0, none⟩) n (grownCap w n 0 28)) (w.drew.alloc (.cells ((#[] : Array Value) ++ Builtin.zeroCells #[.int .i64 0, .int .i64 0, .int .i64 0] n ++ Builtin.zeroCells #[.int .i64 0, .int .i64 0, .int .i64 0] (grownCap w n 0 28 - n)) 28)) := fun ty => by
    have h := Lib.run_append_grow_zeros (P := Try.prog) w 22 3 ty 28 i0 _ .i64 .i64 Try.underlying22 Try.underlying3 hi hz0 none 0 0 [] (run_firstCells_none w.drew i0.size 0 0 0) n hn (by omega) (by omega) (by omega) (by rw [hz2]; exact hbig) (by rw [Nat.zero_add, nextslicecap_zero hn, hz2]; exact hbig)
    rw [Nat.zero_add] at h
    exact h
  have hge := grownCap_ge w n 0 28
  have hcm : grownCap w n 0 28 ≤ maxLen := grownCap_le_maxLen w n 0 _ (by simp only [maxLen]; omega)
  have hc63 : grownCap w n 0 28 ≤ 9223372036854775807 := by simp only [maxLen] at hcm; omega
  generalize grownCap w n 0 28 = cap at *
  have b1 : ¬ ((n : Int) < 0) := by omega
  have b2 : (n : Int) > 0 := by omega
  have b3 : IntKind.i64.wrap (n : Int) = n := IntWalk.i64_in _ (by omega)
  go_enter Try.func50, Try.ntmps50
  go_wp2_with (at_builtin; go_must (refine Lib.wpList_append_run _ rfl _ _ _ _ rfl _ _ rfl rfl _ _ (hrz _) ?_))
  go_ret; exact ⟨cap, rfl, hge, fun ok hok => ownR.room _ cap (by simp) hcm (by simp [size_zeroCells, ruleS]; omega) (by simpa using hok), by (repeat' (first | with_reducible exact Below.refl _ _ | with_reducible assumption | with_reducible refine Below.drew ?_ | with_reducible refine Below_drewN ?_ _ | with_reducible refine Below.alloc ?_ ?_ _ | with_reducible refine Below.setCell ?_ ?_ _ | omega | (simp; done) | (simp; omega)))⟩

set_option maxRecDepth 100000 in
set_option maxHeartbeats 2000000 in
theorem growZero_c (w : World) :
    Calls Try.prog 50 #[.slice none 0 0, .int .i64 0] w fun e w' => e = .returned (.slice none 0 0) ∧ w' = w := by
  go_enter Try.func50, Try.ntmps50
  go_wp2
  go_ret; exact ⟨rfl, rfl⟩

/-- Concat's loops are at number i -/
def CatI (n1 n2 : Nat) (i s : Nat) : Prop := (i = 0 ∧ s = 0) ∨ (i = 1 ∧ s = n1) ∨ (i = 2 ∧ s = n1 + n2)

set_option maxRecDepth 100000 in
set_option maxHeartbeats 4000000 in
theorem concat_c (xs ys : List Rule) (ok ok' : Nat → Prop) (ax ay : Option Addr) (cx cy b : Nat) (w : World) (hx : rowRep ruleS ok w ax cx xs) (hy : rowRep ruleS ok' w ay cy ys)
    (c0 : w.cell? ⟨b, 0, none⟩ = some (.slice ax xs.length cx)) (c1 : w.cell? ⟨b, 1, none⟩ = some (.slice ay ys.length cy)) (hbig : xs.length * 24 ≤ 140737488355328) (hbig2 : ys.length * 24 ≤ 140737488355328) :
    Calls Try.prog 35 #[.slice (some ⟨b, 0, none⟩) 2 2] w fun e w' => ((xs ++ ys = [] ∧ e = .returned (.slice none 0 0)) ∨
      (∃ g cap junk, e = .returned (.slice (some ⟨g, 0, none⟩) (xs ++ ys).length cap) ∧ (xs ++ ys).length ≤ cap ∧ cap ≤ maxLen ∧ w.heap.size ≤ g ∧ RR w' g 28 (xs ++ ys) junk)) ∧ Below w.heap.size w w' := by
  obtain ⟨i0, hi, hz0, hz1, hz2⟩ := info_parts info_rules
  have hbl : b < w.heap.size := by
    rcases Nat.lt_or_ge b w.heap.size with h | h
    · exact h
    · simp [World.cell?, Array.getElem?_eq_none h] at c0
  have hlz : (xs ++ ys).length = xs.length + ys.length := List.length_append
  generalize hn1 : xs.length = n1 at *
  generalize hn2 : ys.length = n2 at *
  go_enter Try.func35, Try.ntmps35
  go_wp2
  go_loop [3, 5, 11] (fun ss _ ii => ∃ i s : Nat, ss = .int .i64 s ∧ ii = .int .i64 i ∧ CatI n1 n2 i s) (fun _ _ ii => 2 - (intOf ii).toNat)
  case atStart => exact ⟨0, 0, rfl, rfl, .inl ⟨rfl, rfl⟩⟩
  case round =>
    obtain ⟨i, s, rfl, rfl, (⟨rfl, rfl⟩ | ⟨rfl, rfl⟩ | ⟨rfl, rfl⟩)⟩ := hrel
    · go_wp2
      go_round
      case rel => exact ⟨1, n1, by go_num, by go_num, .inr (.inl ⟨rfl, rfl⟩)⟩
      case measure => simp [intOf]
    · have b1 : ¬ ((s : Int) + (n2 : Int) < 0) := by omega
      go_wp2
      go_round
      case rel => exact ⟨2, s + n2, by go_num, by go_num, .inr (.inr ⟨rfl, rfl⟩)⟩
      case measure => simp [intOf]
    by_cases hz : n1 + n2 = 0
    · obtain rfl : n1 = 0 := by omega
      obtain rfl : n2 = 0 := by omega
      obtain rfl : xs = [] := List.eq_nil_of_length_eq_zero hn1
      obtain rfl : ys = [] := List.eq_nil_of_length_eq_zero hn2
      go_wp2_with fail
      refine (growZero_c _).mono ?_
      rintro e w1 ⟨rfl, rfl⟩
      rename World => w
      have hr0 : ∀ (ty : TypeId) (a : Option Addr) (c : Nat) (w : World), (Builtin.append_ #[22, 22] ty #[.slice none 0 0, .slice a 0 c]).run Try.prog w = .ok (.slice none 0 0) w := fun ty a c w => by
        cases a <;> simp [Builtin.append_, run_underlying (P := Try.prog) Try.underlying22, sizeOf, typeInfo, hi, Builtin.lenOf, Builtin.firstCells, loadCells, loadCellsFrom, storeCells]
      go_wp2
      go_loop [6, 8, 27] (fun ss _ ii => ∃ i : Nat, ss = .slice none 0 0 ∧ ii = .int .i64 i ∧ i ≤ 2) (fun _ _ ii => 2 - (intOf ii).toNat)
      case atStart => exact ⟨0, rfl, rfl, by omega⟩
      case round =>
        obtain ⟨i, rfl, rfl, hi2⟩ := hrel
        rcases (show i = 0 ∨ i = 1 ∨ i = 2 by omega) with rfl | rfl | rfl
        · go_wp2_with (at_builtin; go_must (refine Lib.wpList_append_run _ rfl _ _ _ _ rfl _ _ rfl rfl _ _ (hr0 _ _ _ _) ?_))
          go_round
          case rel => exact ⟨1, rfl, by go_num, by omega⟩
          case measure => simp [intOf]
        · go_wp2_with (at_builtin; go_must (refine Lib.wpList_append_run _ rfl _ _ _ _ rfl _ _ rfl rfl _ _ (hr0 _ _ _ _) ?_))
          go_round
          case rel => exact ⟨2, rfl, by go_num, by omega⟩
          case measure => simp [intOf]
        · go_wp2
          go_ret; exact ⟨.inl rfl, by (repeat' (first | with_reducible exact Below.refl _ _ | with_reducible assumption | with_reducible refine Below.drew ?_ | with_reducible refine Below_drewN ?_ _ | with_reducible refine Below.alloc ?_ ?_ _ | with_reducible refine Below.setCell ?_ ?_ _ | omega | (simp; done) | (simp; omega)))⟩
    have hgr := growNil_c (n1 + n2) (by omega) (by omega) w
    have HN1 := Lib.hid hn1
    have HN2 := Lib.hid hn2
    have HLZ := Lib.hid hlz
    clear hn1 hn2 hz hlz
    rw [Int.natCast_add] at hgr
    go_wp2_with fail
    refine hgr.mono ?_
    rintro e w1 ⟨cap, rfl, hcap, hown, hb1⟩
    have hown1 := hown (fun k => k < w.heap.size) (fun _ h => h)
    have hx0 : rowRep ruleS (fun k => k < w.heap.size) w ax cx xs := hx.mono fun b hb _ => ⟨hb, rfl⟩
    have hy0 : rowRep ruleS (fun k => k < w.heap.size) w ay cy ys := hy.mono fun b hb _ => ⟨hb, rfl⟩
    clear hown hgr hx hy
    go_wp2
    go_loopw [6, 8, 27] (fun ss _ ii wr => ∃ (i s : Nat) (zs : List Rule), ss = .slice (some ⟨w.heap.size, 0, none⟩) s cap ∧ ii = .int .i64 i ∧ ((i = 0 ∧ zs = [] ∧ s = 0) ∨ (i = 1 ∧ zs = xs ∧ s = n1) ∨ (i = 2 ∧ zs = xs ++ ys ∧ s = n1 + n2)) ∧ ownR ruleS 28 (fun k => k < w.heap.size) w.heap.size wr (some ⟨w.heap.size, 0, none⟩) s cap zs ∧ Below w.heap.size w wr) (fun _ _ ii _ => 2 - (intOf ii).toNat)
    case atStart => exact ⟨0, 0, [], rfl, rfl, .inl ⟨rfl, rfl, rfl⟩, hown1, hb1⟩
    case round =>
      clear hown1 hb1
      obtain ⟨i, s, zs, rfl, rfl, hI, hown, hb⟩ := hrel
      rename World => wo
      have q0 := (cell_at hb hbl c0)
      have q1 := (cell_at hb hbl c1)
      have hxo := hx0.below hb
      have hyo := hy0.below hb
      have hz := hb.size
      have HN1 := HN1.out
      have HN2 := HN2.out
      rcases hI with ⟨rfl, rfl, rfl⟩ | ⟨rfl, rfl, rfl⟩ | ⟨rfl, rfl, rfl⟩
      · have H1 := Lib.hid HN1
        have H2 := Lib.hid HN2
        clear HN1 HN2 hyo
        go_wp2_with (at_builtin; go_must (refine wpList_appRoom (sh := ruleS) rfl _ _ 22 rfl 28 i0 Try.underlying22 hi hz1 (by decide) rfl hown rfl H1.out hxo.src (by omega) ?_); go_must (
          intro w2 hown1 hg1
          have hb2 := grown_below (B := w.heap.size) hg1 (fun k hk => (hown.lt k hk).1) hz
          rw [List.nil_append, Nat.zero_add] at hown1))
        go_roundw
        case rel => exact ⟨1, _, _, rfl, by go_num, .inr (.inl ⟨rfl, rfl, rfl⟩), hown1, hb.trans hb2⟩
        case measure => simp [intOf]
      · have H1 := Lib.hid HN1
        have H2 := Lib.hid HN2
        clear HN1 HN2 hxo
        go_wp2_with (at_builtin; go_must (refine wpList_appRoom (sh := ruleS) rfl _ _ 22 rfl 28 i0 Try.underlying22 hi hz1 (by decide) rfl hown rfl H2.out hyo.src (by omega) ?_); go_must (
          intro w2 hown1 hg1
          have hb2 := grown_below (B := w.heap.size) hg1 (fun k hk => (hown.lt k hk).1) hz))
        go_roundw
        case rel => exact ⟨2, _, _, rfl, by go_num, .inr (.inr ⟨rfl, rfl, rfl⟩), hown1, hb.trans hb2⟩
        case measure => simp [intOf]
      · have H1 := Lib.hid HN1
        have H2 := Lib.hid HN2
        clear HN1 HN2 hxo hyo
        go_wp2
        obtain ⟨junk, hRR, k1, k2, k3, k4⟩ := hown.rr
        go_ret; exact ⟨.inr ⟨w.heap.size, cap, junk, ret_slice k2, by omega, k4, k1, hRR⟩, by (repeat' (first | with_reducible exact Below.refl _ _ | with_reducible assumption | with_reducible refine Below.drew ?_ | with_reducible refine Below_drewN ?_ _ | with_reducible refine Below.alloc ?_ ?_ _ | with_reducible refine Below.setCell ?_ ?_ _ | omega | (simp; done) | (simp; omega)))⟩

set_option maxRecDepth 100000 in
set_option maxHeartbeats 8000000 in
theorem compact_c (g n cap : Nat) (xs : List Rule) (junk : List Value) (w : World) (h : RR w g 28 xs junk) (hn : xs.length = n) (hnc : n ≤ cap) (hcm : cap ≤ maxLen) (hbig : n ≤ 100000000000000) :
    Calls Try.prog 38 #[.slice (some ⟨g, 0, none⟩) n cap] w fun e w' => e = .returned (.slice (some ⟨g, 0, none⟩) (comp xs).length cap) ∧ (comp xs).length ≤ n ∧ (∃ junk', RR w' g 28 (comp xs) junk') ∧ Near g w w' := by
  obtain ⟨i0, hi, hz0, hz1, hz2⟩ := info_parts info_rules
  have hN0 : Hid (Near g w w) := Near.refl _ _
  have hc63 : cap ≤ 9223372036854775807 := by simp only [maxLen] at hcm; omega
  have q1 : Try.prog.eqGuardType Try.prog.depth 28 = false := by kernel_rfl
  by_cases h2 : n < 2
  · have HE : Hid (comp xs = xs) := comp_short xs (by omega)
    have HN := Lib.hid hn
    have b1 : (n : Int) < 2 := by omega
    clear hn h2
    go_enter Try.func38, Try.ntmps38
    go_wp2
    go_ret; exact ⟨ret_slice (by rw [HE.out, HN.out]), by rw [HE.out, HN.out]; exact Nat.le_refl _, ⟨junk, by rw [HE.out]; exact h⟩, hN0.out⟩
  have b1 : ¬ (n : Int) < 2 := by omega
  have hst : Hid (comp (xs.take 1) = xs.take 1) := comp_one xs
  have hxl : ∀ k, k < n → ∃ x, xs[k]? = some x := fun k hk => ⟨_, List.getElem?_eq_getElem (by omega)⟩
  have HXL := Lib.hid hxl
  have HN := Lib.hid hn
  have HEN : Hid (comp (xs.take n) = xs.take n → comp xs = xs) := fun h => by rw [List.take_of_length_le (by omega)] at h; exact h
  have HDN : Hid (∀ m kk zs, Cmp xs m kk zs → n ≤ m → zs.take kk = comp xs ∧ (comp xs).length = min kk zs.length) := fun m kk zs h1 h2 => h1.done (by omega)
  have HLN : Hid (∀ m kk zs, Cmp xs m kk zs → zs.length = n) := fun m kk zs h1 => by rw [h1.2.2.2.1, hn]
  clear hn hxl
  go_enter Try.func38, Try.ntmps38
  go_wp2
  go_loopw [3] (fun kk wr => ∃ k : Nat, kk = .int .i64 k ∧ 1 ≤ k ∧ k ≤ n ∧ Hid (comp (xs.take k) = xs.take k) ∧ RR wr g 28 xs junk ∧ Hid (Near g w wr)) (fun kk _ => n - (intOf kk).toNat)
  case atStart => exact ⟨1, rfl, Nat.le_refl _, by omega, hst, h, hN0⟩
  case round =>
    clear hst h hN0
    obtain ⟨k, rfl, hk1, hkn, hS, hR, hN⟩ := hrel
    rename World => wo
    by_cases hlt : k < n
    case neg =>
      obtain rfl : k = n := by omega
      have HE := Lib.hid (HEN.out hS.out)
      clear hS
      go_wp2
      go_ret; exact ⟨ret_slice (by rw [HE.out, HN.out]), by rw [HE.out, HN.out]; exact Nat.le_refl _, ⟨junk, by rw [HE.out]; exact hR⟩, hN.out⟩
    obtain ⟨x, hx⟩ := HXL.out k hlt
    obtain ⟨y, hy⟩ := HXL.out (k - 1) (by omega)
    have b2 : (k : Int) < (n : Int) := by omega
    have e1 : (k : Int) - 1 = ((k - 1 : Nat) : Int) := by omega
    have b3 : ((k - 1 : Nat) : Int) < (n : Int) := by omega
    obtain ⟨x0, x1, x2⟩ := hR.get hx
    obtain ⟨y0, y1, y2⟩ := hR.get hy
    have hq := eql_rule x y
    have HX := Lib.hid hx
    have HY := Lib.hid hy
    clear hx hy
    by_cases hxy : x = y
    · subst hxy
      rw [decide_eq_true rfl] at hq
      have hC := Lib.hid (Cmp.start hS.out hk1 HY.out HX.out)
      clear hS
      go_wp2
      go_quiet (fail)
      go_wp2
      clear x0 x1 x2 y0 y1 y2 hq
      go_loopw [3, 5] (fun kk jj wr => ∃ (q j : Nat) (zs : List Rule), kk = .int .i64 q ∧ jj = .int .i64 j ∧ 1 ≤ j ∧ k + j ≤ n ∧ q < k + j ∧ 1 ≤ q ∧ Hid (Cmp xs (k + j) q zs) ∧ RR wr g 28 zs junk ∧ Hid (Near g w wr)) (fun _ jj _ => n - (intOf jj).toNat)
      case atStart => exact ⟨k, 1, xs, rfl, rfl, Nat.le_refl _, by omega, by omega, hk1, hC, hR.drewN _, hN.out.drewN _⟩
      case round =>
        clear hC hR hN
        obtain ⟨q, j, zs, rfl, rfl, hj1, hjn, hqj, hq1, hC, hR, hN⟩ := hrel
        rename World => wi
        have hzl := HLN.out _ _ _ hC.out
        by_cases hlt2 : k + j < n
        case neg =>
          obtain ⟨g1, g2⟩ := HDN.out _ _ _ hC.out (by omega)
          obtain ⟨wc, hcl, ⟨junk', hRc⟩, hNc⟩ := run_clear_RR (P := Try.prog) (t := 22) (k := q) (n := n) Try.underlying22 hi hz0 rfl (by decide) hR hzl (by omega)
          have HG1 := Lib.hid g1
          have hlq : (comp xs).length = q := by rw [g2]; omega
          have HLQ := Lib.hid hlq
          have hjn' : j = n - k := by omega
          have b4 : ¬ (j : Int) < ((n - k : Nat) : Int) := by omega
          have HNC := Lib.hid hNc
          clear hC g1 g2 hlq hNc hzl
          go_wp2
          go_ret; exact ⟨ret_slice (by rw [HLQ.out]), by rw [HLQ.out]; omega, ⟨junk', by rw [← HG1.out]; exact hRc⟩, hN.out.trans HNC.out⟩
        obtain ⟨r, hr⟩ := HXL.out (k + j) hlt2
        obtain ⟨p, hp⟩ := HXL.out (k + j - 1) (by omega)
        have hrz : zs[k + j]? = some r := by rw [← hr]; exact hC.out.2.2.2.2 _ (by omega)
        have hpz : zs[k + j - 1]? = some p := by rw [← hp]; exact hC.out.2.2.2.2 _ (by omega)
        obtain ⟨x0, x1, x2⟩ := hR.get hrz
        obtain ⟨y0, y1, y2⟩ := hR.get hpz
        have hri := hR.elem hrz
        have e5 : (k + j - 1) * 3 = k * 3 + (j - 1) * 3 := by omega
        have e6 : (k + j) * 3 = k * 3 + j * 3 := by omega
        rw [e6] at x0 x1 x2
        rw [e5] at y0 y1 y2
        have b4 : (j : Int) < ((n - k : Nat) : Int) := by omega
        have e7 : (j : Int) - 1 = ((j - 1 : Nat) : Int) := by omega
        have b5 : ((j - 1 : Nat) : Int) < ((n - k : Nat) : Int) := by omega
        have b6 : (q : Int) < (n : Int) := by omega
        have hfz := hR.frz
        have hq := neq_rule r p
        have HRX := Lib.hid hr
        have HPX := Lib.hid hp
        clear hr hp hrz hpz
        by_cases hrp : r = p
        · subst hrp
          rw [decide_eq_true rfl] at hq
          have hC2 := Lib.hid (hC.out.skip HPX.out HRX.out)
          clear hC
          go_wp2
          go_quiet (fail)
          go_wp2
          case roundEnd =>
            go_roundw
            case rel => exact ⟨q, j + 1, zs, rfl, by go_num, by omega, by omega, by omega, hq1, hC2, hR.drewN _, hN.out.drewN _⟩
            case measure => simp [intOf] <;> omega
        · rw [decide_eq_false hrp] at hq
          have hC2 := Lib.hid (hC.out.keep HPX.out HRX.out hrp)
          obtain ⟨o, ho⟩ : ∃ o, zs[q]? = some o := ⟨_, List.getElem?_eq_getElem (by omega)⟩
          obtain ⟨o0, o1, o2⟩ := hR.get ho
          clear hC ho
          go_wp2
          go_quiet (fail)
          have hR2 := (hR.drewN nq).put (i := q) (by omega) hri
          have hN2 := Lib.hid ((((hN.out.drewN nq).set (q * 3) (.int .i64 r.ver)).set (q * 3 + 1) (.int .i64 r.flow)).set (q * 3 + 2) (.int .i64 r.next))
          go_wp2
          case roundEnd =>
            go_roundw
            case rel => exact ⟨q + 1, j + 1, _, by go_num, by go_num, by omega, by omega, by omega, by omega, hC2, hR2, hN2⟩
            case measure => simp [intOf] <;> omega
    · rw [decide_eq_false hxy] at hq
      have hS2 := Lib.hid (comp_same hS.out hk1 HY.out HX.out hxy)
      clear hS
      go_wp2
      go_quiet (fail)
      go_wp2
      case roundEnd =>
        go_roundw
        case rel => exact ⟨k + 1, by go_num, by omega, by omega, hS2, hR.drewN _, hN.out.drewN _⟩
        case measure => simp [intOf] <;> omega

set_option maxRecDepth 100000 in
set_option maxHeartbeats 2000000 in
theorem compactNil_c (ao : Option Addr) (cap : Nat) (w : World) :
    Calls Try.prog 38 #[.slice ao 0 cap] w fun e w' => e = .returned (.slice ao 0 cap) ∧ w' = w := by
  go_enter Try.func38, Try.ntmps38
  go_wp2
  go_ret; exact ⟨rfl, rfl⟩

end Go.Proofs.Ytcfcdembhjnjfaa
