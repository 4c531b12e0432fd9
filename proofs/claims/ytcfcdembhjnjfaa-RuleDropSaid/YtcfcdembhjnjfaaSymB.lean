/-
  The walk of slices.symMergeCmpFunc at rules: one on the right.
-/
import Derived.Test.YtcfcdembhjnjfaaSymA
set_option linter.unusedSimpArgs false
set_option linter.unusedVariables false
namespace Go.St
/-- what the search has found in u: all ahead of i are not greater than y, from j on all are -/
def BsB (u : List Rule) (y : Rule) (i j : Nat) : Prop := (i = 0 ∨ ∃ h x, h + 1 = i ∧ u[h]? = some x ∧ ruleLt y x = false) ∧ (u.length ≤ j ∨ ∃ x, u[j]? = some x ∧ ruleLt y x = true)
theorem BsB.start (u : List Rule) (y : Rule) : BsB u y 0 u.length := ⟨.inl rfl, .inl (Nat.le_refl _)⟩
theorem BsB.up {u : List Rule} {x y : Rule} {i j h : Nat} (g : BsB u y i j) (hx : u[h]? = some x) (hl : ruleLt y x = false) : BsB u y (h + 1) j := ⟨.inr ⟨h, x, rfl, hx, hl⟩, g.2⟩
theorem BsB.down {u : List Rule} {x y : Rule} {i j h : Nat} (g : BsB u y i j) (hx : u[h]? = some x) (hl : ruleLt y x = true) : BsB u y i h := ⟨g.1, .inr ⟨x, hx, hl⟩⟩
theorem BsB.done {u : List Rule} {y : Rule} {i : Nat} (g : BsB u y i i) (hu : Srt ruleLt u) : (∀ x ∈ u.take i, ruleLt y x = false) ∧ ∀ x ∈ u.drop i, ruleLt y x = true := by
  constructor
  · intro x hx
    rcases g.1 with rfl | ⟨h, z, rfl, hz, hl⟩
    · simp at hx
    obtain ⟨k, hk, e⟩ := List.getElem_of_mem hx
    have hk' : u[k]? = some x := by rw [← e, List.getElem_take]; exact List.getElem?_eq_getElem _
    have hkh : k ≤ h := by simp at hk; omega
    exact ruleLt_weak.neg hl (srt_mono hu hkh hk' hz)
  · intro x hx
    obtain ⟨k, hk, e⟩ := List.getElem_of_mem hx
    have hk' : u[i + k]? = some x := by rw [← e, List.getElem_drop]; exact List.getElem?_eq_getElem _
    rcases g.2 with h | ⟨z, hz, hl⟩
    · have := (List.getElem?_eq_some_iff.1 hk').1; omega
    · exact ruleLt_weak.lt_le hl (srt_mono hu (by omega) hz hk')
end Go.St
namespace Go.Proofs.Ytcfcdembhjnjfaa
open Go.RowKit Go.St

set_option maxRecDepth 100000 in
set_option maxHeartbeats 8000000 in
theorem symB_c (g n cap a m b : Nat) (p u s : List Rule) (y : Rule) (junk : List Value) (w : World) (h : RR w g 28 (p ++ (u ++ y :: s)) junk) (hn : (p ++ (u ++ y :: s)).length = n) (hbig : n ≤ 100000000000000)
    (ha : p.length = a) (hm : a + u.length = m) (hb : b = m + 1) (hu1 : 2 ≤ u.length) (hu : Srt ruleLt u) :
    Calls Try.prog 64 #[.slice (some ⟨g, 0, none⟩) n cap, .int .i64 a, .int .i64 m, .int .i64 b, .func (.func 37) #[] #[]] w fun e w' => e = .returned (.tuple #[]) ∧ (∃ u1 u2, u = u1 ++ u2 ∧ (∀ x ∈ u1, ruleLt y x = false) ∧ (∀ x ∈ u2, ruleLt y x = true) ∧ RR w' g 28 (p ++ (u1 ++ y :: (u2 ++ s))) junk) ∧ Near g w w' := by
  have hy0 : (p ++ (u ++ y :: s))[m]? = some y := by rw [← List.append_assoc]; exact Go.St.get_at (p ++ u) _ y (by simp; omega)
  have hget : ∀ h x, a ≤ h → h < m → (p ++ (u ++ y :: s))[h]? = some x → u[h - a]? = some x := by
    intro h x h1 h2 h3
    rw [List.getElem?_append_right (by omega), ha, List.getElem?_append_left (by omega)] at h3
    exact h3
  have hmn : m < n := by simp only [List.length_append, List.length_cons] at hn; omega
  have hul : u.length = m - a := by omega
  have hyr := h.elem hy0
  have hst : Hid (BsB u y (a - a) (m - a)) := by have := BsB.start u y; rw [hul] at this; rw [Nat.sub_self]; exact this
  have hfin : ∀ i, a ≤ i → i ≤ m → BsB u y (i - a) (i - a) → ∃ u1 u2, u = u1 ++ u2 ∧ u1.length = i - a ∧ u2.length = m - i ∧ (∀ x ∈ u1, ruleLt y x = false) ∧ (∀ x ∈ u2, ruleLt y x = true) := fun i h1 h2 h3 =>
    ⟨u.take (i - a), u.drop (i - a), (List.take_append_drop _ _).symm, by simp; omega, by simp; omega, (h3.done hu).1, (h3.done hu).2⟩
  have HF := Lib.hid hfin
  generalize hz0 : p ++ (u ++ y :: s) = z0 at *
  have HZ := Lib.hid hz0
  have HG := Lib.hid hget
  have HY0 := Lib.hid hy0
  have HA := Lib.hid ha
  have ham : a + 2 ≤ m := by omega
  have e0 : (((m : Int) - (a : Int)) == 1) = false := by simp; omega
  have e1 : (b : Int) - (m : Int) = 1 := by omega
  have hb1 : b ≤ m + 1 := by omega
  have hb2 : m + 1 ≤ b := by omega
  have hl1 : z0.length ≤ n := by omega
  have hl2 : n ≤ z0.length := by omega
  clear hget hy0 hu hul hb hm hn ha hz0 hfin hu1
  go_enter Try.func64, Try.ntmps64
  go_wp2
  go_loopw [14, 15, 16] (fun ii jj _ wr => ∃ (i j : Nat), ii = .int .i64 i ∧ jj = .int .i64 j ∧ a ≤ i ∧ i ≤ j ∧ j ≤ m ∧ Hid (BsB u y (i - a) (j - a)) ∧ RR wr g 28 z0 junk ∧ Hid (Near g w wr)) (fun ii jj _ _ => (intOf jj).toNat - (intOf ii).toNat)
  case atStart => exact ⟨a, m, rfl, rfl, Nat.le_refl _, by omega, Nat.le_refl _, hst, h, Near.refl _ _⟩
  case round =>
    clear hst h
    obtain ⟨i, j, rfl, rfl, hi, hij, hjb, hS, hR, hN⟩ := hrel
    rename World => wo
    by_cases hlt : i < j
    case neg =>
      obtain rfl : i = j := by omega
      obtain ⟨u1, u2, hv12, hv1, hv2, hlo, hhi⟩ := HF.out i hi hjb hS.out
      have HV12 := Lib.hid hv12
      have HLO := Lib.hid hlo
      have HHI := Lib.hid hhi
      have hpl : (p ++ u1).length = i := by have := HA.out; simp; omega
      have hM := Lib.hid (show MvD (p ++ u1) y u2 s (m - i) z0 by rw [← HZ.out, HV12.out, ← hv2, show p ++ (u1 ++ u2 ++ y :: s) = (p ++ u1) ++ (u2 ++ y :: s) by simp]; exact MvD.start _ _ _ _)
      have hmz : ∀ k zs, MvD (p ++ u1) y u2 s k zs → zs.length = n := fun k zs h => by
        have h1 := h.len; have h2 := hM.out.len; omega
      have hms : ∀ kp zs x z, MvD (p ++ u1) y u2 s (kp + 1 - i) zs → i ≤ kp → kp + 1 ≤ m → zs[kp + 1]? = some x → zs[kp]? = some z → MvD (p ++ u1) y u2 s (kp - i) ((zs.set (kp + 1) z).set kp x) := by
        intro kp zs x z h1 h2 h3 h4 h5
        have e3 : kp = (p ++ u1).length + (kp - i) := by omega
        have e4 : kp + 1 = (p ++ u1).length + (kp - i + 1) := by omega
        rw [show kp + 1 - i = kp - i + 1 by omega] at h1
        rw [e4] at h4
        rw [e3] at h5
        have := h1.step (by omega) h4 h5
        rw [← e4, ← e3] at this
        exact this
      have hmd : ∀ k zs, MvD (p ++ u1) y u2 s (k - i) zs → k ≤ i → zs = p ++ (u1 ++ y :: (u2 ++ s)) := fun k zs h1 h2 => by
        rw [show k - i = 0 by omega] at h1
        rw [h1.done]; simp
      have HMZ := Lib.hid hmz
      have HMS := Lib.hid hms
      have HMD := Lib.hid hmd
      have b1 : ¬ (i : Int) < (i : Int) := by omega
      clear hmz hms hmd hv1 hv2 hv12 hlo hhi hS hpl
      go_wp2
      go_loopw [17] (fun kk wr => ∃ (k : Nat) (zs : List Rule), kk = .int .i64 k ∧ i ≤ k ∧ k ≤ m ∧ Hid (MvD (p ++ u1) y u2 s (k - i) zs) ∧ RR wr g 28 zs junk ∧ Hid (Near g w wr)) (fun kk _ => (intOf kk).toNat)
      case atStart => exact ⟨m, z0, rfl, hjb, by omega, hM, hR, hN⟩
      case round =>
      clear hM hR hN
      obtain ⟨k, zs, rfl, hk, hki, hM, hR, hN⟩ := hrel
      rename World => wi
      have hl := HMZ.out _ zs hM.out
      have hl3 : zs.length ≤ n := by omega
      have hl4 : n ≤ zs.length := by omega
      clear hl
      by_cases hk1 : i < k
      case neg =>
        have b2 : ¬ (i : Int) < (k : Int) := by omega
        have HE := Lib.hid (HMD.out k zs hM.out (by omega))
        clear hM
        go_wp2
        go_returns; exact ⟨rfl, ⟨u1, u2, HV12.out, HLO.out, HHI.out, by rw [← HE.out]; exact hR⟩, hN.out⟩
      obtain ⟨kp, rfl⟩ : ∃ kp, k = kp + 1 := ⟨k - 1, by omega⟩
      have b2 : (i : Int) < (kp : Int) + 1 := by omega
      obtain ⟨x, hx⟩ : ∃ x, zs[kp + 1]? = some x := ⟨_, List.getElem?_eq_getElem (by omega)⟩
      obtain ⟨z, hz⟩ : ∃ z, zs[kp]? = some z := ⟨_, List.getElem?_eq_getElem (by omega)⟩
      have HM := Lib.hid (HMS.out kp zs x z hM.out (by omega) hki hx hz)
      have HX := Lib.hid hx
      have HY := Lib.hid hz
      have hxr := hR.elem hx
      have hyr := hR.elem hz
      have hkn : kp + 1 < n := by omega
      clear hM hx hz
      obtain ⟨x0, x1, x2⟩ := hR.get HX.out
      obtain ⟨y0, y1, y2⟩ := hR.get HY.out
      have hfz := hR.frz
      have hgl := hR.lt
      go_wp2
      go_region
      have hR2 := hR.swap (i := kp + 1) (j := kp) (x := x) (y := z) (by omega) (by omega) hxr hyr
      have hN2 := Lib.hid (hN.out.swap (kp + 1) (kp) z x)
      simp only [put2] at hR2 hN2
      go_wp2
      case roundEnd =>
        go_roundw
        case rel => exact ⟨kp, _, by go_num, by omega, by omega, HM, hR2, hN2⟩
        case measure => simp [intOf] <;> omega
    have b1 : (i : Int) < (j : Int) := by omega
    obtain ⟨h, e2⟩ : ∃ h : Nat, ((i : Int) + j) / 2 = (h : Int) := ⟨(i + j) / 2, by omega⟩
    have h1 : i ≤ h := by omega
    have h2 : h < j := by omega
    obtain ⟨x, hx⟩ : ∃ x, z0[h]? = some x := ⟨_, List.getElem?_eq_getElem (by omega)⟩
    have hvx := HG.out h x (by omega) (by omega) hx
    have hU : ruleLt y x = false → Hid (BsB u y (h + 1 - a) (j - a)) := fun hl => by rw [show h + 1 - a = h - a + 1 by omega]; exact hS.out.up hvx hl
    have hD : ruleLt y x = true → Hid (BsB u y (i - a) (h - a)) := fun hl => hS.out.down hvx hl
    have HU := Lib.hid hU
    have HD := Lib.hid hD
    have hS0 := R2.of hR HY0.out hx
    have ob := order_bool y x
    have hhn : h < n := by omega
    have hgl := hR.lt
    have k1 : ¬ (n : Int) ≤ (h : Int) := by omega
    have k2 : ¬ (n : Int) ≤ (m : Int) := by omega
    clear hS hx hvx hU hD
    go_wp2
    refine wp_region_to (R2 g (m * 3) (h * 3) y x) 99 (fun a0 a' w' => ∃ v92 v93 v94 v95 v96 v97 v98 v99 v100 v101 v102, a' = puts a0 [(92, v92), (93, v93), (94, v94), (95, v95), (96, v96), (97, v97), (98, v98), (99, v99), (100, v100), (101, v101), (102, v102), (103, .bool (!ruleLt y x))] ∧ Below wo.heap.size wo w') (by kernel_rfl) ?_ ?_
    · intro Q' hR hQp
      have hb0 : Below wo.heap.size wo wo.drew := by (repeat' (first | with_reducible exact Below.refl _ _ | with_reducible assumption | with_reducible refine Below.drew ?_ | with_reducible refine Below_drewN ?_ _ | with_reducible refine Below.alloc ?_ ?_ _ | with_reducible refine Below.setCell ?_ ?_ _ | omega | (simp; done) | (simp; omega)))
      have hS : R2 g (m * 3) (h * 3) y x wo.drew := hS0
      generalize wo.drew = wa at *
      refine wpAnyK_take' (i := 0) (.func (.func 37) #[] #[]) rfl (by kernel_rfl) (fun _ _ _ h => hQp _ _ _ _ h) hS (yields_value (by kernel_rfl) (by intro w0 hw0; have hw1 := hw0; simp only [R2] at hw1; go_simp)) ?_; simp only [Act.put, List.getElem_toArray, List.getElem_cons_succ, List.getElem_cons_zero, List.setIfInBounds_toArray, List.set_cons_succ, List.set_cons_zero]
      refine wpAnyK_take' (i := 1) (.slice (some ⟨g, 0, none⟩) n cap) rfl (by kernel_rfl) (fun _ _ _ h => hQp _ _ _ _ h) hS (yields_value (by kernel_rfl) (by intro w0 hw0; have hw1 := hw0; simp only [R2] at hw1; go_simp)) ?_; simp only [Act.put, List.getElem_toArray, List.getElem_cons_succ, List.getElem_cons_zero, List.setIfInBounds_toArray, List.set_cons_succ, List.set_cons_zero]
      refine wpAnyK_take' (i := 2) (.int .i64 m) rfl (by kernel_rfl) (fun _ _ _ h => hQp _ _ _ _ h) hS (yields_value (by kernel_rfl) (by intro w0 hw0; have hw1 := hw0; simp only [R2] at hw1; go_simp)) ?_; simp only [Act.put, List.getElem_toArray, List.getElem_cons_succ, List.getElem_cons_zero, List.setIfInBounds_toArray, List.set_cons_succ, List.set_cons_zero]
      refine wpAnyK_take' (i := 3) (.pointer (some ⟨g, m * 3, none⟩)) rfl (by kernel_rfl) (fun _ _ _ h => hQp _ _ _ _ h) hS (yields_value (by kernel_rfl) (by intro w0 hw0; have hw1 := hw0; simp only [R2] at hw1; go_simp)) ?_; simp only [Act.put, List.getElem_toArray, List.getElem_cons_succ, List.getElem_cons_zero, List.setIfInBounds_toArray, List.set_cons_succ, List.set_cons_zero]
      refine wpAnyK_take' (i := 4) (.agg #[.int .i64 y.ver, .int .i64 y.flow, .int .i64 y.next]) rfl (by kernel_rfl) (fun _ _ _ h => hQp _ _ _ _ h) hS (yields_value (by kernel_rfl) (by intro w0 hw0; have hw1 := hw0; simp only [R2] at hw1; go_simp)) ?_; simp only [Act.put, List.getElem_toArray, List.getElem_cons_succ, List.getElem_cons_zero, List.setIfInBounds_toArray, List.set_cons_succ, List.set_cons_zero]
      refine wpAnyK_take' (i := 5) (.slice (some ⟨g, 0, none⟩) n cap) rfl (by kernel_rfl) (fun _ _ _ h => hQp _ _ _ _ h) hS (yields_value (by kernel_rfl) (by intro w0 hw0; have hw1 := hw0; simp only [R2] at hw1; go_simp)) ?_; simp only [Act.put, List.getElem_toArray, List.getElem_cons_succ, List.getElem_cons_zero, List.setIfInBounds_toArray, List.set_cons_succ, List.set_cons_zero]
      refine wpAnyK_take' (i := 6) (.int .i64 h) rfl (by kernel_rfl) (fun _ _ _ h => hQp _ _ _ _ h) hS (yields_value (by kernel_rfl) (by intro w0 hw0; have hw1 := hw0; simp only [R2] at hw1; go_simp)) ?_; simp only [Act.put, List.getElem_toArray, List.getElem_cons_succ, List.getElem_cons_zero, List.setIfInBounds_toArray, List.set_cons_succ, List.set_cons_zero]
      refine wpAnyK_take' (i := 7) (.pointer (some ⟨g, h * 3, none⟩)) rfl (by kernel_rfl) (fun _ _ _ h => hQp _ _ _ _ h) hS (yields_value (by kernel_rfl) (by intro w0 hw0; have hw1 := hw0; simp only [R2] at hw1; go_simp)) ?_; simp only [Act.put, List.getElem_toArray, List.getElem_cons_succ, List.getElem_cons_zero, List.setIfInBounds_toArray, List.set_cons_succ, List.set_cons_zero]
      refine wpAnyK_take' (i := 8) (.agg #[.int .i64 x.ver, .int .i64 x.flow, .int .i64 x.next]) rfl (by kernel_rfl) (fun _ _ _ h => hQp _ _ _ _ h) hS (yields_value (by kernel_rfl) (by intro w0 hw0; have hw1 := hw0; simp only [R2] at hw1; go_simp)) ?_; simp only [Act.put, List.getElem_toArray, List.getElem_cons_succ, List.getElem_cons_zero, List.setIfInBounds_toArray, List.set_cons_succ, List.set_cons_zero]
      clear hS
      refine wpAnyK_call (i := 9) rfl (by kernel_rfl) (by kernel_rfl) fun K9 hK9 => ?_
      go_simp
      go_wp2_with fail
      refine (order_c y x wa).mono ?_
      rintro e wb ⟨rfl, hb1⟩
      go_wp2_with fail
      have hb2 : Below wo.heap.size wo wb := hb0.trans (hb1.mono hb0.size)
      have hS := hS0.under hgl hb2
      refine hK9 _ _ (fun _ => hS) ?_
      clear hK9
      refine wpAnyK_take' (i := 10) (.bool (ruleLt y x)) rfl (by kernel_rfl) (fun _ _ _ h => hQp _ _ _ _ h) hS (yields_value (by kernel_rfl) (by intro w0 hw0; have hw1 := hw0; simp only [R2] at hw1; go_simp)) ?_; simp only [Act.put, List.getElem_toArray, List.getElem_cons_succ, List.getElem_cons_zero, List.setIfInBounds_toArray, List.set_cons_succ, List.set_cons_zero]
      refine wpAnyK_take' (i := 11) (.bool (!ruleLt y x)) rfl (by kernel_rfl) (fun _ _ _ h => hQp _ _ _ _ h) hS (yields_value (by kernel_rfl) (by intro w0 hw0; have hw1 := hw0; simp only [R2] at hw1; go_simp)) ?_; simp only [Act.put, List.getElem_toArray, List.getElem_cons_succ, List.getElem_cons_zero, List.setIfInBounds_toArray, List.set_cons_succ, List.set_cons_zero]
      refine wpAnyK_done (by kernel_rfl) ?_ _
      refine hR _ _ ?_
      iterate 11 apply Exists.intro
      refine ⟨?_, hb2⟩
      simp only [puts, Act.put, List.setIfInBounds_toArray, List.set_cons_succ, List.set_cons_zero]
      rfl
    rintro a' w8 ⟨v92, v93, v94, v95, v96, v97, v98, v99, v100, v101, v102, rfl, hb8⟩
    simp only [puts, Act.put, List.setIfInBounds_toArray, List.set_cons_succ, List.set_cons_zero]
    have hR8 := hR.under hb8
    have hN8 : Hid (Near g w w8) := hN.out.then hb8
    clear hR hN hS0 hb8
    by_cases hyx : ruleLt y x = true
    · have hS := HD.out hyx
      rw [hyx, Bool.not_true]
      clear HU HD
      go_wp2
      case roundEnd =>
        go_roundw
        case rel => exact ⟨i, h, rfl, rfl, hi, h1, by omega, hS, hR8, hN8⟩
        case measure => simp [intOf] <;> omega
    · have hyx' : ruleLt y x = false := by simpa using hyx
      have hS := HU.out hyx'
      rw [hyx', Bool.not_false]
      clear HU HD hyx
      go_wp2
      case roundEnd =>
        go_roundw
        case rel => exact ⟨h + 1, j, by go_num, rfl, by omega, by omega, hjb, hS, hR8, hN8⟩
        case measure => simp [intOf] <;> omega

end Go.Proofs.Ytcfcdembhjnjfaa
