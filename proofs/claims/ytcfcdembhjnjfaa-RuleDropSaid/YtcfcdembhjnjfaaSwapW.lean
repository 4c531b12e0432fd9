/-
  The walk of slices.swapRangeCmpFunc at rules.
-/
import Derived.Test.YtcfcdembhjnjfaaSortP
import Derived.Test.YtcfcdembhjnjfaaOrder
set_option linter.unusedSimpArgs false
set_option linter.unusedVariables false
namespace Go.Proofs.Ytcfcdembhjnjfaa
open Go.RowKit Go.St

set_option maxRecDepth 100000 in
set_option maxHeartbeats 4000000 in
theorem swapR_c (g n cap a b k : Nat) (p u q v s : List Rule) (junk : List Value) (cf : Value) (w : World) (h : RR w g 28 (p ++ u ++ q ++ v ++ s) junk) (hn : (p ++ u ++ q ++ v ++ s).length = n) (hbig : n ≤ 100000000000000)
    (ha : p.length = a) (hk : u.length = k) (hk' : v.length = k) (hb : a + k + q.length = b) :
    Calls Try.prog 76 #[.slice (some ⟨g, 0, none⟩) n cap, .int .i64 a, .int .i64 b, .int .i64 k, cf] w fun e w' => e = .returned (.tuple #[]) ∧ RR w' g 28 (p ++ v ++ q ++ u ++ s) junk ∧ Near g w w' := by
  have hstep : ∀ i zs x y, SwR p u q v s i zs → i < k → zs[a + i]? = some x → zs[b + i]? = some y → SwR p u q v s (i + 1) ((zs.set (a + i) y).set (b + i) x) := by
    intro i zs x y h1 h2 h3 h4
    have hb' : b = p.length + u.length + q.length := by omega
    subst ha
    rw [hb'] at h4 ⊢
    exact h1.step (by omega) (by omega) h3 h4
  have hend : ∀ i zs, SwR p u q v s i zs → k ≤ i → zs = p ++ v ++ q ++ u ++ s := fun i zs h1 h2 => h1.done (by omega) (by omega)
  have hlen : ∀ i zs, SwR p u q v s i zs → i ≤ k → zs.length = n := fun i zs h1 h2 => by rw [h1.len (by omega) (by omega), hn]
  have hbn : b + k ≤ n := by simp only [List.length_append] at hn; omega
  have hak : a + k ≤ b := by omega
  have hst : Hid (SwR p u q v s 0 (p ++ u ++ q ++ v ++ s)) := SwR.zero p u q v s
  have HS := Lib.hid hstep
  have HE := Lib.hid hend
  have HL := Lib.hid hlen
  clear hstep hend hlen ha hk hk' hb hn
  generalize p ++ u ++ q ++ v ++ s = z0 at *
  generalize p ++ v ++ q ++ u ++ s = z1 at *
  go_enter Try.func76, Try.ntmps76
  go_wp2
  go_loopw [10] (fun idx wr => ∃ (i : Nat) (zs : List Rule), idx = .int .i64 i ∧ i ≤ k ∧ Hid (SwR p u q v s i zs) ∧ RR wr g 28 zs junk ∧ Near g w wr) (fun idx _ => k - (intOf idx).toNat)
  case atStart => exact ⟨0, z0, rfl, Nat.zero_le _, hst, h, Near.refl _ _⟩
  case round =>
    clear hst h
    obtain ⟨i, zs, rfl, hi, hS, hR, hN⟩ := hrel
    rename World => wo
    have hl := HL.out i zs hS.out hi
    have hl1 : zs.length ≤ n := by omega
    have hl2 : n ≤ zs.length := by omega
    clear hl
    by_cases hlt : i < k
    case neg =>
      have b1 : ¬ (i : Int) < (k : Int) := by omega
      have HZ := Lib.hid (HE.out i zs hS.out (by omega))
      clear hS
      go_wp2
      go_returns; exact ⟨rfl, by rw [← HZ.out]; exact hR, hN⟩
    have b1 : (i : Int) < (k : Int) := by omega
    obtain ⟨x, hx⟩ : ∃ x, zs[a + i]? = some x := ⟨_, List.getElem?_eq_getElem (by omega)⟩
    obtain ⟨y, hy⟩ : ∃ y, zs[b + i]? = some y := ⟨_, List.getElem?_eq_getElem (by omega)⟩
    obtain ⟨x0, x1, x2⟩ := hR.get hx
    obtain ⟨y0, y1, y2⟩ := hR.get hy
    have hfz := hR.frz
    have hgl := hR.lt
    have HX := Lib.hid (HS.out i zs x y hS.out hlt hx hy)
    have hxr := hR.elem hx
    have hyr := hR.elem hy
    have hne : (a + i) * 3 < (b + i) * 3 := by omega
    have hai : a + i < n := by omega
    have hbi : b + i < n := by omega
    clear hx hy hS
    go_wp2
    go_region
    have hR2 := hR.swap (i := a + i) (j := b + i) (x := x) (y := y) (by omega) (by omega) hxr hyr
    have hN2 := hN.swap (a + i) (b + i) y x
    simp only [put2] at hR2 hN2
    go_wp2
    case roundEnd =>
      go_roundw
      case rel => exact ⟨i + 1, _, by go_num, by omega, HX, hR2, hN2⟩
      case measure => simp [intOf] <;> omega

end Go.Proofs.Ytcfcdembhjnjfaa
