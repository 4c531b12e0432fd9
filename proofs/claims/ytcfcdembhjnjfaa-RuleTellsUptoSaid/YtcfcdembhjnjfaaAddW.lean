/-
  The walk of package rules' Add.
-/
import Derived.Test.YtcfcdembhjnjfaaCatW
import Derived.Test.YtcfcdembhjnjfaaStabW
import Derived.Test.YtcfcdembhjnjfaaTabW
import Derived.WalkKit
import Derived.WalkSpells
import Derived.WalkLawsBesides
import Derived.Lib.Hide
import Derived.Deep.LoopGhost
import Derived.Deep.QuietTactic
import Derived.BigQuiet
import Derived.Deep.RegionWith
import Derived.Handy
set_option linter.unusedSimpArgs false
set_option linter.unusedVariables false
namespace Go.St
open Go.RowKit
/-- a row of the call's own that is turned in place; nil, if it is empty -/
def OR (t : TypeId) (w : World) (B : Nat) (ao : Option Addr) (cap : Nat) (xs : List Rule) : Prop :=
  (xs = [] ∧ ao = none ∧ cap = 0) ∨ ∃ g junk, ao = some ⟨g, 0, none⟩ ∧ xs.length ≤ cap ∧ cap ≤ maxLen ∧ B ≤ g ∧ RR w g t xs junk
theorem OR.row {t : TypeId} {w : World} {B : Nat} {ao : Option Addr} {cap : Nat} {xs : List Rule} (h : OR t w B ao cap xs) : rowRep ruleS (fun b => B ≤ b) w ao cap xs := by
  rcases h with ⟨rfl, rfl, rfl⟩ | ⟨g, junk, rfl, h1, h2, h3, h4⟩
  · exact rowRep.nil _ _ _ _
  · exact h4.row h1 h2 h3
theorem OR.below {t : TypeId} {w w' : World} {B : Nat} {ao : Option Addr} {cap : Nat} {xs : List Rule} (h : OR t w B ao cap xs) (hb : Below w.heap.size w w') : OR t w' B ao cap xs := by
  rcases h with ⟨rfl, rfl, rfl⟩ | ⟨g, junk, rfl, h1, h2, h3, h4⟩
  · exact .inl ⟨rfl, rfl, rfl⟩
  · exact .inr ⟨g, junk, rfl, h1, h2, h3, h4.under hb⟩
end Go.St
namespace Go.Proofs.Ytcfcdembhjnjfaa
open Go.RowKit Go.St

theorem concatO_c (xs ys : List Rule) (ok ok' : Nat → Prop) (ax ay : Option Addr) (cx cy b : Nat) (w : World) (hx : rowRep ruleS ok w ax cx xs) (hy : rowRep ruleS ok' w ay cy ys)
    (c0 : w.cell? ⟨b, 0, none⟩ = some (.slice ax xs.length cx)) (c1 : w.cell? ⟨b, 1, none⟩ = some (.slice ay ys.length cy)) (hbig : xs.length * 24 ≤ 140737488355328) (hbig2 : ys.length * 24 ≤ 140737488355328) :
    Calls Try.prog 35 #[.slice (some ⟨b, 0, none⟩) 2 2] w fun e w' => ∃ ao cap, e = .returned (.slice ao (xs ++ ys).length cap) ∧ OR 28 w' w.heap.size ao cap (xs ++ ys) ∧ Below w.heap.size w w' := by
  refine (concat_c xs ys ok ok' ax ay cx cy b w hx hy c0 c1 hbig hbig2).mono ?_
  rintro e w' ⟨⟨h1, rfl⟩ | ⟨g, cap, junk, rfl, h1, h2, h3, h4⟩, hb⟩
  · exact ⟨none, 0, by rw [h1]; rfl, .inl ⟨h1, rfl, rfl⟩, hb⟩
  · exact ⟨_, cap, rfl, .inr ⟨g, junk, rfl, h1, h2, h3, h4⟩, hb⟩

theorem sortO_c (B : Nat) (ao : Option Addr) (cap : Nat) (xs : List Rule) (w : World) (h : OR 28 w B ao cap xs) (hB : B ≤ w.heap.size) (hbig : xs.length ≤ 100000000000000) :
    Calls Try.prog 36 #[.slice ao xs.length cap, .func (.func 37) #[] #[]] w fun e w' => e = .returned (.tuple #[]) ∧ OR 28 w' B ao cap (ssort ruleLt xs) ∧ Below B w w' := by
  rcases h with ⟨rfl, rfl, rfl⟩ | ⟨g, junk, rfl, h1, h2, h3, h4⟩
  · refine (sortStableNil_c none 0 _ w).mono ?_
    rintro e w' ⟨rfl, rfl⟩
    exact ⟨rfl, .inl ⟨rfl, rfl, rfl⟩, Below.refl _ _⟩
  · refine (sortStable_c g xs.length cap xs junk w h4 rfl hbig).mono ?_
    rintro e w' ⟨rfl, h5, h6⟩
    exact ⟨rfl, .inr ⟨g, junk, rfl, by rw [ssort_len]; exact h1, h2, h3, h5⟩, h6.to (Below.refl _ _) hB h3⟩

theorem compactO_c (B : Nat) (ao : Option Addr) (cap : Nat) (xs : List Rule) (w : World) (h : OR 28 w B ao cap xs) (hB : B ≤ w.heap.size) (hbig : xs.length ≤ 100000000000000) :
    Calls Try.prog 38 #[.slice ao xs.length cap] w fun e w' => e = .returned (.slice ao (comp xs).length cap) ∧ OR 28 w' B ao cap (comp xs) ∧ Below B w w' := by
  rcases h with ⟨rfl, rfl, rfl⟩ | ⟨g, junk, rfl, h1, h2, h3, h4⟩
  · refine (compactNil_c none 0 w).mono ?_
    rintro e w' ⟨rfl, rfl⟩
    exact ⟨rfl, .inl ⟨rfl, rfl, rfl⟩, Below.refl _ _⟩
  · refine (compact_c g xs.length cap xs junk w h4 rfl h1 h2 hbig).mono ?_
    rintro e w' ⟨rfl, h5, ⟨junk', h6⟩, h7⟩
    exact ⟨rfl, .inr ⟨g, junk', rfl, Nat.le_trans h5 h1, h2, h3, h6⟩, h7.to (Below.refl _ _) hB h3⟩

set_option maxRecDepth 100000 in
set_option maxHeartbeats 8000000 in
theorem add_c (l more : List Rule) (ok ok' : Nat → Prop) (ax ay : Option Addr) (cx cy : Nat) (w : World) (hx : rowRep ruleS ok w ax cx l) (hy : rowRep ruleS ok' w ay cy more) (hbig : l.length * 24 ≤ 140737488355328) (hbig2 : more.length * 24 ≤ 140737488355328) :
    Calls Try.prog 14 #[.slice ax l.length cx, .slice ay more.length cy] w fun e w' => ∃ ao cap, e = .returned (.tuple #[.slice ao (addOf l more).1.length cap, .int .i64 (addOf l more).2]) ∧ rowRep ruleS (fun b => w.heap.size ≤ b) w' ao cap (addOf l more).1 ∧ Below w.heap.size w w' := by
  have hsl : (ssort ruleLt (l ++ more)).length = (l ++ more).length := ssort_len _
  have hcl : (comp (ssort ruleLt (l ++ more))).length ≤ (ssort ruleLt (l ++ more)).length := (comp_sub _).length_le
  have hll : (l ++ more).length = l.length + more.length := List.length_append
  have HE1 : Hid ((tabWrong l).1 ≠ 0 → addOf l more = ([], (tabWrong l).1)) := fun h => by unfold addOf; rw [if_pos h]
  have HE2 : Hid ((tabWrong l).1 = 0 → (tabWrong (comp (ssort ruleLt (l ++ more)))).1 ≠ 0 → addOf l more = ([], (tabWrong (comp (ssort ruleLt (l ++ more)))).1)) := fun h h2 => by unfold addOf; rw [if_neg (by simpa using h)]; exact if_pos h2
  have HE3 : Hid ((tabWrong l).1 = 0 → (tabWrong (comp (ssort ruleLt (l ++ more)))).1 = 0 → addOf l more = (comp (ssort ruleLt (l ++ more)), 0)) := fun h h2 => by unfold addOf; rw [if_neg (by simpa using h)]; exact if_neg (fun h3 => h3 h2)
  generalize addOf l more = c at *
  obtain ⟨c1, c2⟩ := c
  dsimp only
  have hC1 := fun b (w1 : World) (h1 : Below w.heap.size w w1) => concatO_c l more ok ok' ax ay cx cy b w1 (hx.below h1) (hy.below h1)
  have HC1 := Lib.hid hC1
  clear hC1
  generalize l ++ more = xs at *
  have HSL := Lib.hid hsl
  have HLL := Lib.hid hll
  clear hsl hll
  generalize hss : ssort ruleLt xs = ss at *
  generalize hoo : comp ss = oo at *
  have HSS := Lib.hid hss
  have HOO := Lib.hid hoo
  clear hss hoo
  go_enter Try.func14, Try.ntmps14
  go_wp2_with fail
  have x1 := (blockIs.new (w := w) (t := 22) (cs := #[.slice ax l.length cx, .slice ay more.length cy]) rfl).cells.1
  have hb0 : Below w.heap.size w (w.alloc (.cells #[.slice ax l.length cx, .slice ay more.length cy] 22)) := by (repeat' (first | with_reducible exact Below.refl _ _ | with_reducible assumption | with_reducible refine Below.drew ?_ | with_reducible refine Below_drewN ?_ _ | with_reducible refine Below.alloc ?_ ?_ _ | with_reducible refine Below.setCell ?_ ?_ _ | omega | (simp; done) | (simp; omega)))
  refine (HC1.out w.heap.size _ hb0 (x1 0) (x1 1) hbig hbig2).mono ?_
  rintro e w1 ⟨ao, cap, rfl, hO, hb1⟩
  have hB1 : Below w.heap.size w w1 := hb0.trans (hb1.mono hb0.size)
  have hO1 : OR 28 w1 w.heap.size ao cap xs := by
    rcases hO with h | ⟨g, junk, h0, h1, h2, h3, h4⟩
    · exact .inl h
    · exact .inr ⟨g, junk, h0, h1, h2, by simp at h3; omega, h4⟩
  clear hO hb1 x1 hb0 HC1
  go_wp2_with fail
  refine (sortO_c w.heap.size ao cap xs w1 hO1 hB1.size (by have := HLL.out; omega)).mono ?_
  rintro e w2 ⟨rfl, hO2, hb2⟩
  rw [HSS.out] at hO2
  have hB2 := hB1.trans hb2
  clear hO1 hb2 hB1
  rw [← HSL.out]
  go_wp2_with fail
  refine (compactO_c w.heap.size ao cap ss w2 hO2 hB2.size (by have := HLL.out; have := HSL.out; omega)).mono ?_
  rintro e w3 ⟨rfl, hO3, hb3⟩
  rw [HOO.out] at hO3 ⊢
  have hB3 := hB2.trans hb3
  clear hO2 hb3 hB2
  go_wp2_with fail
  refine (tabWrong_c l ok ax cx w3 (hx.below hB3)).mono ?_
  rintro e w4 ⟨rfl, hb4⟩
  have hO4 := hO3.below hb4
  have hB4 := hB3.trans (hb4.mono hB3.size)
  have hz4 := hB4.size
  clear hO3 hB3 hb4
  generalize hwl : tabWrong l = wl at *
  have HWL := Lib.hid hwl
  clear hwl
  obtain ⟨wl1, wl2⟩ := wl
  dsimp only at *
  by_cases h1 : wl1 = 0
  case neg =>
    have h1' : (wl1 != 0) = true := by rw [bne_iff_ne]; exact h1
    obtain ⟨rfl, rfl⟩ : c1 = [] ∧ c2 = wl1 := by have := HE1.out h1; simpa using this
    clear h1 HE1 HE2 HE3
    go_wp2
    go_quiet (fail)
    go_wp2
    go_returns; exact ⟨none, 0, rfl, rowRep.nil _ _ _ _, by (repeat' (first | with_reducible exact Below.refl _ _ | with_reducible assumption | with_reducible refine Below.drew ?_ | with_reducible refine Below_drewN ?_ _ | with_reducible refine Below.alloc ?_ ?_ _ | with_reducible refine Below.setCell ?_ ?_ _ | omega | (simp; done) | (simp; omega)))⟩
  subst h1
  clear HE1
  go_wp2_with fail
  refine (tabWrong_c oo (fun b => w.heap.size ≤ b) ao cap _ (hO4.row.below (by (repeat' (first | with_reducible exact Below.refl _ _ | with_reducible assumption | with_reducible refine Below.drew ?_ | with_reducible refine Below_drewN ?_ _ | with_reducible refine Below.alloc ?_ ?_ _ | with_reducible refine Below.setCell ?_ ?_ _ | omega | (simp; done) | (simp; omega)))))).mono ?_
  rintro e w5 ⟨rfl, hb5⟩
  have hB5 : Below w.heap.size w w5 := Below.trans (show Below w.heap.size w (w4.alloc _) by (repeat' (first | with_reducible exact Below.refl _ _ | with_reducible assumption | with_reducible refine Below.drew ?_ | with_reducible refine Below_drewN ?_ _ | with_reducible refine Below.alloc ?_ ?_ _ | with_reducible refine Below.setCell ?_ ?_ _ | omega | (simp; done) | (simp; omega)))) (hb5.mono (by simp; omega))
  have hO5 := (hO4.row (xs := oo)).below (w' := w5) (Below.trans (by (repeat' (first | with_reducible exact Below.refl _ _ | with_reducible assumption | with_reducible refine Below.drew ?_ | with_reducible refine Below_drewN ?_ _ | with_reducible refine Below.alloc ?_ ?_ _ | with_reducible refine Below.setCell ?_ ?_ _ | omega | (simp; done) | (simp; omega)))) (hb5.mono (by simp)))
  have hz5 := hB5.size
  clear hO4 hB4
  generalize hwo : tabWrong oo = wl at *
  have HWO := Lib.hid hwo
  clear hwo
  obtain ⟨wo1, wo2⟩ := wl
  dsimp only at *
  by_cases h2 : wo1 = 0
  case neg =>
    have h1' : (wo1 != 0) = true := by rw [bne_iff_ne]; exact h2
    obtain ⟨rfl, rfl⟩ : c1 = [] ∧ c2 = wo1 := by have := HE2.out (by first | trivial | rfl) h2; simpa using this
    clear h2 HE2 HE3
    go_wp2
    go_quiet (fail)
    go_wp2
    go_returns; exact ⟨none, 0, rfl, rowRep.nil _ _ _ _, by (repeat' (first | with_reducible exact Below.refl _ _ | with_reducible assumption | with_reducible refine Below.drew ?_ | with_reducible refine Below_drewN ?_ _ | with_reducible refine Below.alloc ?_ ?_ _ | with_reducible refine Below.setCell ?_ ?_ _ | omega | (simp; done) | (simp; omega)))⟩
  subst h2
  obtain ⟨rfl, rfl⟩ : c1 = oo ∧ c2 = 0 := by have := HE3.out (by first | trivial | rfl) (by first | trivial | rfl); simpa using this
  clear HE2 HE3
  go_wp2
  go_returns; exact ⟨ao, cap, rfl, hO5.below (by (repeat' (first | with_reducible exact Below.refl _ _ | with_reducible assumption | with_reducible refine Below.drew ?_ | with_reducible refine Below_drewN ?_ _ | with_reducible refine Below.alloc ?_ ?_ _ | with_reducible refine Below.setCell ?_ ?_ _ | omega | (simp; done) | (simp; omega)))), by (repeat' (first | with_reducible exact Below.refl _ _ | with_reducible assumption | with_reducible refine Below.drew ?_ | with_reducible refine Below_drewN ?_ _ | with_reducible refine Below.alloc ?_ ?_ _ | with_reducible refine Below.setCell ?_ ?_ _ | omega | (simp; done) | (simp; omega)))⟩

end Go.Proofs.Ytcfcdembhjnjfaa
