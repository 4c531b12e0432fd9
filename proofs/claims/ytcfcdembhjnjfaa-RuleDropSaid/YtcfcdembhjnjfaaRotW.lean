/-
  The walk of slices.rotateCmpFunc at rules.
-/
import Derived.Test.YtcfcdembhjnjfaaSwapW
set_option linter.unusedSimpArgs false
set_option linter.unusedVariables false
namespace Go.Proofs.Ytcfcdembhjnjfaa
open Go.RowKit Go.St

set_option maxRecDepth 100000 in
set_option maxHeartbeats 4000000 in
theorem rotate_c (g n cap a m b : Nat) (p u v s : List Rule) (junk : List Value) (cf : Value) (w : World) (h : RR w g 28 (p ++ (u ++ (v ++ s))) junk) (hn : (p ++ (u ++ (v ++ s))).length = n) (hbig : n ≤ 100000000000000)
    (ha : p.length = a) (hm : a + u.length = m) (hb : m + v.length = b) (hu : 1 ≤ u.length) (hv : 1 ≤ v.length) :
    Calls Try.prog 73 #[.slice (some ⟨g, 0, none⟩) n cap, .int .i64 a, .int .i64 m, .int .i64 b, cf] w fun e w' => e = .returned (.tuple #[]) ∧ RR w' g 28 (p ++ (v ++ (u ++ s))) junk ∧ Near g w w' := by
  have hst : Hid (Rot p u v s m u.length v.length (p ++ (u ++ (v ++ s)))) := by have := Rot.zero p u v s; rw [← hm, ← ha]; exact this
  have hlen : ∀ i j zs, Rot p u v s m i j zs → zs.length = n := fun i j zs h1 => by rw [h1.len, hn]
  have HL := Lib.hid hlen
  have hmn : m ≤ n := by simp only [List.length_append] at hn; omega
  have hbn : b ≤ n := by simp only [List.length_append] at hn; omega
  have e1 : (m : Int) - (a : Int) = (u.length : Int) := by omega
  have e2 : (b : Int) - (m : Int) = (v.length : Int) := by omega
  have hum : u.length ≤ m := by omega
  have hvb : m + v.length ≤ n := by omega
  clear hlen hn ha hm hb
  generalize hz0 : p ++ (u ++ (v ++ s)) = z0 at *
  generalize hul : u.length = i0 at *
  generalize hvl : v.length = j0 at *
  clear hz0 hul hvl
  go_enter Try.func73, Try.ntmps73
  go_wp2

  clear e1 e2
  go_loopw [10, 11] (fun ii jj wr => ∃ (i j : Nat) (zs : List Rule), ii = .int .i64 i ∧ jj = .int .i64 j ∧ 1 ≤ i ∧ 1 ≤ j ∧ Hid (Rot p u v s m i j zs) ∧ RR wr g 28 zs junk ∧ Near g w wr) (fun ii jj _ => (intOf ii).toNat + (intOf jj).toNat)
  case atStart => exact ⟨i0, j0, z0, rfl, rfl, hu, hv, hst, h, Near.refl _ _⟩
  case round =>
    clear hst h hum hvb hu hv
    obtain ⟨i, j, zs, rfl, rfl, hi, hj, hS, hR, hN⟩ := hrel
    rename World => wo
    have hl := HL.out i j zs hS.out
    obtain ⟨k1, k2⟩ := hS.out.bounds
    have hl1 : zs.length ≤ n := by omega
    have hl2 : n ≤ zs.length := by omega
    have e1 : (m : Int) - (i : Int) = ((m - i : Nat) : Int) := by omega
    have hgl := hR.lt
    have HN := Lib.hid hN
    clear hl hN
    by_cases hij : i = j
    · subst hij
      obtain ⟨P, U, V, E, hz, f1, f2, f3, f4, f5⟩ := hS.out.same
      have hR1 : RR wo g 28 (P ++ U ++ [] ++ V ++ E) junk := hz ▸ hR
      have hn1 : (P ++ U ++ [] ++ V ++ E).length = n := by rw [← hz]; omega
      have HC := Lib.hid (swapR_c g n cap (m - i) m i P U [] V E junk cf wo hR1 hn1 hbig f1 f2 f3 (by simp only [List.length_nil] at f4 ⊢; omega))
      have HE := Lib.hid (show P ++ V ++ [] ++ U ++ E = p ++ (v ++ (u ++ s)) from f5)
      clear hS hR hR1 hn1 hz f1 f2 f3 f4 f5
      go_wp2_with fail
      try rw [e1]
      refine HC.out.mono ?_
      rintro e w1 ⟨rfl, hr1, hn1⟩
      rw [HE.out] at hr1
      go_wp2
      go_returns; exact ⟨rfl, hr1, HN.out.trans hn1⟩
    have hne : ((i : Int) != (j : Int)) = true := by rw [bne_iff_ne]; omega
    by_cases hgt : j < i
    · obtain ⟨P, U1, U2, V, E, hz, f1, f2, f3, f4, f5⟩ := hS.out.more hgt
      have hR1 : RR wo g 28 (P ++ U1 ++ U2 ++ V ++ E) junk := hz ▸ hR
      have hn1 : (P ++ U1 ++ U2 ++ V ++ E).length = n := by rw [← hz]; omega
      have HC := Lib.hid (swapR_c g n cap (m - i) m j P U1 U2 V E junk cf wo hR1 hn1 hbig f1 f2 f3 (by omega))
      have HT : Hid (Rot p u v s m (i - j) j (P ++ V ++ U2 ++ U1 ++ E)) := f5
      have b1 : (j : Int) < (i : Int) := by omega
      have e3 : (i : Int) - (j : Int) = ((i - j : Nat) : Int) := by omega
      clear hS hR hR1 hn1 hz f1 f2 f3 f4 f5
      go_wp2_with fail
      try rw [e1]
      refine HC.out.mono ?_
      rintro e w1 ⟨rfl, hr1, hn1⟩
      go_wp2
      case roundEnd =>
        go_roundw
        case rel => exact ⟨i - j, j, _, by first | rfl | rw [e3], rfl, by omega, hj, HT, hr1, HN.out.trans hn1⟩
        case measure => simp [intOf] <;> omega
    · have hlt : i < j := by omega
      obtain ⟨P, U, V1, V2, E, hz, f1, f2, f3, f4, f5⟩ := hS.out.less hlt
      have hR1 : RR wo g 28 (P ++ U ++ V1 ++ V2 ++ E) junk := hz ▸ hR
      have hn1 : (P ++ U ++ V1 ++ V2 ++ E).length = n := by rw [← hz]; omega
      have HC := Lib.hid (swapR_c g n cap (m - i) (m + j - i) i P U V1 V2 E junk cf wo hR1 hn1 hbig f1 f2 f3 (by omega))
      have HT : Hid (Rot p u v s m i (j - i) (P ++ V2 ++ V1 ++ U ++ E)) := f5
      have b1 : ¬ (j : Int) < (i : Int) := by omega
      have e3 : (j : Int) - (i : Int) = ((j - i : Nat) : Int) := by omega
      have e4 : (m : Int) + (j : Int) - (i : Int) = ((m + j - i : Nat) : Int) := by omega
      clear hS hR hR1 hn1 hz f1 f2 f3 f4 f5
      go_wp2_with fail
      try rw [e4]
      try rw [e1]
      refine HC.out.mono ?_
      rintro e w1 ⟨rfl, hr1, hn1⟩
      go_wp2
      case roundEnd =>
        go_roundw
        case rel => exact ⟨i, j - i, _, rfl, by first | rfl | rw [e3], hi, by omega, HT, hr1, HN.out.trans hn1⟩
        case measure => simp [intOf] <;> omega

end Go.Proofs.Ytcfcdembhjnjfaa
