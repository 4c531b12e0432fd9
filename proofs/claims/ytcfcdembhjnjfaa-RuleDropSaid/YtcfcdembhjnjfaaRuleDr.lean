/-
  The walk of RuleDrop.
-/
import Derived.Test.YtcfcdembhjnjfaaRuleAd
import Derived.Test.YtcfcdembhjnjfaaDropW
import Derived.WalkKit
import Derived.WalkSpells
import Derived.WalkLawsBesides
import Derived.Lib.Hide
import Derived.Deep.LoopGhost
import Derived.Deep.QuietTactic
import Derived.BigQuiet
import Derived.Deep.RegionWith
import Derived.Handy
set_option linter.unusedSimpArgs false
set_option linter.unusedVariables false
namespace Go.Proofs.Ytcfcdembhjnjfaa
open Go.RowKit Go.St

set_option maxRecDepth 100000 in
set_option maxHeartbeats 8000000 in
theorem ruleDrop_c (w : World) (l : List Rule) (ax : Option Addr) (cx : Nat) (ok : Nat → Prop) (hx : rowRep ruleS ok w ax cx l) (z1 : l.length * 24 ≤ 140737488351232) (v : Int) (_ : I64 v) (o : Int) (_ : I64 o) (f : Int) (_ : I64 f) :
    Calls Try.prog 5 #[.slice ax l.length cx, .int .i64 v, .int .i64 o, .int .i64 f] w fun e w' => e = .returned (.bool true) ∧ Below w.heap.size w w' := by
  have hfe := fault_errR
  go_enter Try.func5, Try.ntmps5
  go_wp2_with fail
  refine (alive4_c w).mono ?_
  rintro e w1 ⟨rfl, hb1⟩
  go_wp2_with fail
  have hWc := tabWrong_c l ok ax cx w1 (hx.below hb1)
  generalize htm : tabWrong l = tm at *
  obtain ⟨tm1, tm2⟩ := tm
  dsimp only at *
  refine hWc.mono ?_
  rintro e w2 ⟨rfl, hb2⟩
  have hB2 := hb1.trans (hb2.mono hb1.size)
  clear hWc hb1 hb2
  by_cases h1 : tm1 = 0
  case neg =>
    have h1' : (tm1 != 0) = true := by rw [bne_iff_ne]; exact h1
    clear htm h1
    go_wp2
    go_ret; exact ⟨rfl, hB2⟩
  subst h1
  have htl : TabOk l := tab_ok.1 (by rw [htm])
  have htd := tab_ok.2 (dropOf_ok htl v)
  have hNl := next_c l o f ok ax cx
  have HNE : Hid (o ≠ v → nextOf (dropOf l v) o f = nextOf l o f) := fun h => next_drop_other h
  have HNS : Hid (nextOf (dropOf l v) v f = (0, false)) := next_drop_same l v f
  clear htm htl
  go_wp2_with fail
  refine (drop_c l v ok ax cx w2 (hx.below hB2) (by omega)).mono ?_
  rintro e w3 ⟨ao, cap, rfl, hO, hb3⟩
  have hr3 := hO.row
  have hB3 := hB2.trans (hb3.mono hB2.size)
  clear hO hb3 hB2
  have hN1 := hNl w3 (hx.below hB3)
  generalize hq : nextOf l o f = q at *
  have HQ := Lib.hid hq
  clear hq hNl
  obtain ⟨q1, q2⟩ := q
  dsimp only at *
  go_wp2_with fail
  refine hN1.mono ?_
  rintro e w4 ⟨rfl, hb4⟩
  have hr4 := hr3.below hb4
  have hB4 := hB3.trans (hb4.mono hB3.size)
  clear hN1 hr3 hb4 hB3
  generalize hd : dropOf l v = d at *
  have HD := Lib.hid hd
  clear hd
  have hN2 := next_c d o f _ ao cap w4 hr4
  generalize hp : nextOf d o f = p at *
  have HP := Lib.hid hp
  clear hp
  obtain ⟨p1, p2⟩ := p
  dsimp only at *
  go_wp2_with fail
  refine hN2.mono ?_
  rintro e w5 ⟨rfl, hb5⟩
  have hr5 := hr4.below hb5
  have hB5 := hB4.trans (hb5.mono hB4.size)
  clear hN2 hr4 hb5 hB4
  have hWd := tabWrong_c d _ ao cap w5 hr5
  generalize htm : tabWrong d = tm at *
  have HTM := Lib.hid htm
  clear htm
  obtain ⟨tn1, tn2⟩ := tm
  dsimp only at *
  subst htd
  go_wp2_with fail
  refine hWd.mono ?_
  rintro e w6 ⟨rfl, hb6⟩
  have hB6 := hB5.trans (hb6.mono hB5.size)
  clear hWd
  by_cases hov : o = v
  · subst hov
    have e1 : p2 = false := by have h1 := HNS.out; rw [HP.out] at h1; exact (Prod.mk.inj h1).2
    subst e1
    have b1 : (o == o) = true := by simp
    clear HNS HNE HQ HP HD HTM
    go_wp2
    go_ret; exact ⟨rfl, hB6⟩
  · have e0 : (p1, p2) = (q1, q2) := HNE.out hov
    obtain ⟨rfl, rfl⟩ : p1 = q1 ∧ p2 = q2 := by simpa using e0
    have b1 : (o == v) = false := by simpa using hov
    have b2 : (p1 == p1) = true := by simp
    have b3 : (p2 == p2) = true := by simp
    clear HNS HNE HQ HP HD HTM hov e0
    go_wp2
    go_ret; exact ⟨rfl, hB6⟩

end Go.Proofs.Ytcfcdembhjnjfaa
