/-
  The walks of slices.stableCmpFunc and SortStableFunc at rules.
-/
import Derived.Test.YtcfcdembhjnjfaaSym
import Derived.Test.YtcfcdembhjnjfaaSorts
set_option linter.unusedSimpArgs false
set_option linter.unusedVariables false
namespace Go.Proofs.Ytcfcdembhjnjfaa
open Go.RowKit Go.St

set_option maxRecDepth 100000 in
set_option maxHeartbeats 2000000 in
theorem insNil_c (ao : Option Addr) (cap : Nat) (cf : Value) (w : World) :
    Calls Try.prog 63 #[.slice ao 0 cap, .int .i64 0, .int .i64 0, cf] w fun e w' => e = .returned (.tuple #[]) ∧ w' = w := by
  go_enter Try.func63, Try.ntmps63
  go_wp2
  go_loopw [8, 9] (fun ii _ wr => ii = .int .i64 1 ∧ wr = w) (fun ii _ _ => 0)
  case atStart => exact ⟨rfl, rfl⟩
  case round =>
    obtain ⟨rfl, rfl⟩ := hrel
    go_wp2
    go_returns; exact ⟨rfl, rfl⟩

set_option maxRecDepth 100000 in
set_option maxHeartbeats 8000000 in
theorem stable_c (g n cap : Nat) (xs : List Rule) (junk : List Value) (w : World) (h : RR w g 28 xs junk) (hn : xs.length = n) (hbig : n ≤ 100000000000000) :
    Calls Try.prog 51 #[.slice (some ⟨g, 0, none⟩) n cap, .int .i64 n, .func (.func 37) #[] #[]] w fun e w' => e = .returned (.tuple #[]) ∧ RR w' g 28 (ssort ruleLt xs) junk ∧ Near g w w' := by
  have hst : Hid (StI ruleLt xs 0 xs) := StI.zero xs
  have hN0 : Hid (Near g w w) := Near.refl _ _
  have HL : Hid (∀ a ys, StI ruleLt xs a ys → a ≤ n → ys.length = n) := fun a ys h1 h2 => by rw [h1.len (by omega), hn]
  have HP : Hid (∀ a b ys, StI ruleLt xs a ys → a ≤ b → b ≤ n → ∃ p u s, ys = p ++ (u ++ s) ∧ p.length = a ∧ a + u.length = b ∧ (∀ v, v.length = u.length → Srt ruleLt v → Stab ruleLt u v → b = a + 20 → StI ruleLt xs b (p ++ (v ++ s))) ∧
    (∀ v, v.length = u.length → Srt ruleLt v → Stab ruleLt u v → b < a + 20 → b = n → Bk ruleLt 20 (p ++ (v ++ s)) ∧ Stab ruleLt xs (p ++ (v ++ s)))) := fun a b ys h1 h2 h3 => by
      have := h1.parts h2 (by omega)
      rw [hn] at this; exact this
  have HSL : Hid (∀ ys, Stab ruleLt xs ys → ys.length = n → ∀ k, Bk ruleLt k ys → n ≤ k → ys = ssort ruleLt xs) := fun ys h1 h2 k h3 h4 => h3.done ruleLt_weak h1 (by omega)
  clear hn
  go_enter Try.func51, Try.ntmps51
  go_wp2
  go_loopw [7, 8] (fun aa bb wr => ∃ (a : Nat) (ys : List Rule), aa = .int .i64 a ∧ bb = .int .i64 ((a + 20 : Nat) : Int) ∧ a ≤ n ∧ Hid (StI ruleLt xs a ys) ∧ RR wr g 28 ys junk ∧ Hid (Near g w wr)) (fun aa _ _ => n - (intOf aa).toNat)
  case atStart => exact ⟨0, xs, rfl, rfl, Nat.zero_le _, hst, h, hN0⟩
  case round =>
    clear hst h hN0
    obtain ⟨a, ys, rfl, rfl, han, hS, hR, hN⟩ := hrel
    rename World => wo
    have hl := HL.out a ys hS.out han
    by_cases hlt : a + 20 ≤ n
    · obtain ⟨p, u, s, rfl, f1, f2, f3, _⟩ := HP.out a (a + 20) ys hS.out (by omega) hlt
      have HC := Lib.hid (insSort_c g n cap a (a + 20) p u s junk wo hR hl hbig f1 f2)
      have HF := Lib.hid f3
      have b1 : ((a + 20 : Nat) : Int) ≤ (n : Int) := by omega
      clear hS hR f1 f2 f3 hl
      go_wp2_with fail
      refine HC.out.mono ?_
      rintro e w1 ⟨rfl, ⟨v, hR, hvl, hvs, hvt⟩, hn1⟩
      have HS := Lib.hid (HF.out v hvl hvs hvt (by first | trivial | rfl))
      have HN := Lib.hid (hN.out.trans hn1)
      clear HF HC hvl hvs hvt hn1 hN b1
      go_wp2
      case roundEnd =>
        go_roundw
        case rel => exact ⟨a + 20, _, rfl, by go_num, hlt, HS, hR, HN⟩
        case measure => simp [intOf] <;> omega
    obtain ⟨p, u, s, rfl, f1, f2, _, f3⟩ := HP.out a n ys hS.out (by omega) (Nat.le_refl _)
    have HC := Lib.hid (insSort_c g n cap a n p u s junk wo hR hl hbig f1 f2)
    have HF := Lib.hid f3
    have b1 : ¬ ((a + 20 : Nat) : Int) ≤ (n : Int) := by omega
    have hpl : p.length + (u.length + s.length) = n := by rw [← hl]; simp [List.length_append]
    clear hS hR f1 f2 f3 hl
    go_wp2_with fail
    refine HC.out.mono ?_
    rintro e w1 ⟨rfl, ⟨v, hR, hvl, hvs, hvt⟩, hn1⟩
    obtain ⟨hbk, hsb⟩ := HF.out v hvl hvs hvt (by omega) (by first | trivial | rfl)
    have HB := Lib.hid hbk
    have HT := Lib.hid hsb
    have HN := Lib.hid (hN.out.trans hn1)
    have hzl : (p ++ (v ++ s)).length = n := by simp only [List.length_append]; omega
    clear HF HC hvl hvs hvt hn1 hN b1 hbk hsb HP HL hpl
    generalize p ++ (v ++ s) = z0 at *
    go_wp2
    go_loopw [6, 7, 8, 9] (fun kk aa bb mm wr => ∃ (k : Nat) (zs : List Rule), kk = .int .i64 k ∧ 20 ≤ k ∧ k ≤ 2 * n + 20 ∧ zs.length = n ∧ Hid (Bk ruleLt k zs) ∧ Hid (Stab ruleLt xs zs) ∧ RR wr g 28 zs junk ∧ Hid (Near g w wr)) (fun kk _ _ _ _ => 2 * n + 20 - (intOf kk).toNat)
    case atStart => exact ⟨20, z0, rfl, Nat.le_refl _, by omega, hzl, HB, HT, hR, HN⟩
    case round =>
    clear HB HT hR HN hzl
    obtain ⟨k, zs, rfl, hk20, hkn, hzl, hB, hT, hR, hN⟩ := hrel
    rename World => wi
    by_cases hkl : k < n
    case neg =>
      have b1 : ¬ (k : Int) < (n : Int) := by omega
      have HE := Lib.hid (HSL.out zs hT.out hzl k hB.out (by omega))
      clear hB hT
      go_wp2
      go_returns; exact ⟨rfl, by rw [← HE.out]; exact hR, hN.out⟩
    have b1 : (k : Int) < (n : Int) := by omega
    have hM := Lib.hid (StM.zero hB.out hT.out)
    have e0 : IntKind.i64.wrap (2 * (k : Int)) = ((2 * k : Nat) : Int) := by rw [IntWalk.i64_in _ (by omega)]; omega
    have e9 : IntKind.i64.wrap ((k : Int) * 2) = ((2 * k : Nat) : Int) := by rw [IntWalk.i64_in _ (by omega)]; omega
    clear hB hT
    go_wp2
    go_loopw [7, 8] (fun aa bb wr => ∃ (a : Nat) (ys : List Rule), aa = .int .i64 a ∧ bb = .int .i64 ((a + 2 * k : Nat) : Int) ∧ a ≤ n ∧ ys.length = n ∧ Hid (StM ruleLt xs k a ys) ∧ RR wr g 28 ys junk ∧ Hid (Near g w wr)) (fun aa _ _ => n - (intOf aa).toNat)
    case atStart => exact ⟨0, zs, rfl, by simp, Nat.zero_le _, hzl, hM, hR, hN⟩
    case round =>
    clear hM hR hN hzl
    obtain ⟨a, ys, rfl, rfl, han, hyl, hM, hR, hN⟩ := hrel
    rename World => wj
    by_cases hlt : a + 2 * k ≤ n
    · obtain ⟨p, u, v, s, rfl, f1, f2, f3, f4, f5, f6⟩ := hM.out.two (by omega) (by omega)
      have HC := Lib.hid (sym_c g n cap junk hbig _ a (a + k) (a + 2 * k) p u v s wj (Nat.le_refl _) hR hyl f1 (by omega) (by omega) f4 f5 (by omega) (by omega))
      have HF := Lib.hid f6
      have b2 : ((a + 2 * k : Nat) : Int) ≤ (n : Int) := by omega
      have e2 : IntKind.i64.wrap ((a : Int) + (k : Int)) = ((a + k : Nat) : Int) := by rw [IntWalk.i64_in _ (by omega)]; omega
      have hzz : ∀ z : List Rule, z.length = u.length + v.length → (p ++ (z ++ s)).length = n := fun z h1 => by simp only [List.length_append] at hyl ⊢; omega
      have HZ := Lib.hid hzz
      clear hM hR f1 f2 f3 f4 f5 f6 hyl hzz
      unfold SymDoes at HC
      go_wp2_with fail
      refine HC.out.mono ?_
      rintro e w1 ⟨rfl, ⟨z, hR, hvl, hvs, hvt⟩, hn1⟩
      have HS := Lib.hid (HF.out z hvl hvs hvt)
      have HN := Lib.hid (hN.out.trans hn1)
      have hyl := HZ.out z hvl
      have e3 : IntKind.i64.wrap (((a + 2 * k : Nat) : Int) + ((2 * k : Nat) : Int)) = ((a + 2 * k + 2 * k : Nat) : Int) := by rw [IntWalk.i64_in _ (by omega)]; omega
      clear HF HC hvl hvs hvt hn1 hN b2 HZ
      go_wp2
      case roundEnd =>
        go_roundw
        case rel => exact ⟨a + 2 * k, _, rfl, by first | rfl | (simp; omega), hlt, hyl, HS, hR, HN⟩
        case measure => simp [intOf] <;> omega
    have b2 : ¬ ((a + 2 * k : Nat) : Int) ≤ (n : Int) := by omega
    have e2 : IntKind.i64.wrap ((a : Int) + (k : Int)) = ((a + k : Nat) : Int) := by rw [IntWalk.i64_in _ (by omega)]; omega
    by_cases hml : a + k < n
    case neg =>
      obtain ⟨g1, g2⟩ := hM.out.none (by omega)
      have HB := Lib.hid g1
      have HT := Lib.hid g2
      have b3 : ¬ ((a + k : Nat) : Int) < (n : Int) := by omega
      clear hM g1 g2
      go_wp2
      case roundEnd =>
        go_roundw
        case rel => exact ⟨2 * k, _, rfl, by omega, by omega, hyl, HB, HT, hR, hN⟩
        case measure => simp [intOf] <;> omega
    have b3 : ((a + k : Nat) : Int) < (n : Int) := by omega
    obtain ⟨p, u, v, rfl, f1, f2, f4, f5, f6⟩ := hM.out.last (by omega) (by omega)
    have hvl : v.length + (a + k) = n := by simp only [List.length_append, List.length_nil] at hyl; omega
    have HC := Lib.hid (sym_c g n cap junk hbig _ a (a + k) n p u v [] wj (Nat.le_refl _) hR hyl f1 (by omega) (by omega) f4 f5 (by omega) (by omega))
    have HF := Lib.hid f6
    have hzz : ∀ z : List Rule, z.length = u.length + v.length → (p ++ (z ++ [])).length = n := fun z h1 => by simp only [List.length_append, List.length_nil] at hyl ⊢; omega
    have HZ := Lib.hid hzz
    clear hM hR f1 f2 f4 f5 f6 hyl hzz hvl
    unfold SymDoes at HC
    go_wp2_with fail
    refine HC.out.mono ?_
    rintro e w1 ⟨rfl, ⟨z, hR, hvl, hvs, hvt⟩, hn1⟩
    obtain ⟨g1, g2⟩ := HF.out z hvl hvs hvt
    have HB := Lib.hid g1
    have HT := Lib.hid g2
    have HN := Lib.hid (hN.out.trans hn1)
    have hyl := HZ.out z hvl
    clear HF HC hvl hvs hvt hn1 hN HZ g1 g2
    go_wp2
    case roundEnd =>
      go_roundw
      case rel => exact ⟨2 * k, _, rfl, by omega, by omega, hyl, HB, HT, hR, HN⟩
      case measure => simp [intOf] <;> omega

set_option maxRecDepth 100000 in
set_option maxHeartbeats 2000000 in
theorem stableNil_c (ao : Option Addr) (cap : Nat) (cf : Value) (w : World) :
    Calls Try.prog 51 #[.slice ao 0 cap, .int .i64 0, cf] w fun e w' => e = .returned (.tuple #[]) ∧ w' = w := by
  go_enter Try.func51, Try.ntmps51
  go_wp2
  go_loopw [7, 8] (fun aa bb wr => aa = .int .i64 0 ∧ bb = .int .i64 20 ∧ wr = w) (fun aa _ _ => 0)
  case atStart => exact ⟨rfl, rfl, rfl⟩
  case round =>
    obtain ⟨rfl, rfl, rfl⟩ := hrel
    go_wp2_with fail
    refine (insNil_c ao cap cf _).mono ?_
    rintro e w1 ⟨rfl, rfl⟩
    go_wp2
    rename World => wq
    go_loopw [6] (fun aa wr => aa = .int .i64 20 ∧ wr = wq) (fun aa _ => 0)
    case atStart => exact ⟨rfl, rfl⟩
    case round =>
      obtain ⟨rfl, rfl⟩ := hrel
      go_wp2
      go_returns; exact ⟨rfl, rfl⟩

set_option maxRecDepth 100000 in
set_option maxHeartbeats 2000000 in
theorem sortStable_c (g n cap : Nat) (xs : List Rule) (junk : List Value) (w : World) (h : RR w g 28 xs junk) (hn : xs.length = n) (hbig : n ≤ 100000000000000) :
    Calls Try.prog 36 #[.slice (some ⟨g, 0, none⟩) n cap, .func (.func 37) #[] #[]] w fun e w' => e = .returned (.tuple #[]) ∧ RR w' g 28 (ssort ruleLt xs) junk ∧ Near g w w' := by
  have HC := Lib.hid (stable_c g n cap xs junk w h hn hbig)
  clear h hn
  go_enter Try.func36, Try.ntmps36
  go_wp2_with fail
  refine HC.out.mono ?_
  rintro e w1 ⟨rfl, h1, h2⟩
  go_wp2
  go_returns; exact ⟨rfl, h1, h2⟩

set_option maxRecDepth 100000 in
set_option maxHeartbeats 2000000 in
theorem sortStableNil_c (ao : Option Addr) (cap : Nat) (cf : Value) (w : World) :
    Calls Try.prog 36 #[.slice ao 0 cap, cf] w fun e w' => e = .returned (.tuple #[]) ∧ w' = w := by
  go_enter Try.func36, Try.ntmps36
  go_wp2_with fail
  refine (stableNil_c ao cap cf _).mono ?_
  rintro e w1 ⟨rfl, rfl⟩
  go_wp2
  go_returns; exact ⟨rfl, rfl⟩

end Go.Proofs.Ytcfcdembhjnjfaa
