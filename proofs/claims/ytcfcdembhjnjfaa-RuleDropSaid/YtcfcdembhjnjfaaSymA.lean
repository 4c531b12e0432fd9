/-
  The walk of slices.symMergeCmpFunc at rules: one on the left.
-/
import Derived.Test.YtcfcdembhjnjfaaInsW
import Derived.Test.YtcfcdembhjnjfaaRotW
set_option linter.unusedSimpArgs false
set_option linter.unusedVariables false
namespace Go.St
/-- what the search has found in v: all ahead of i are less than x, from j on none is -/
def BsA (v : List Rule) (x : Rule) (i j : Nat) : Prop := (i = 0 ∨ ∃ h y, h + 1 = i ∧ v[h]? = some y ∧ ruleLt y x = true) ∧ (v.length ≤ j ∨ ∃ y, v[j]? = some y ∧ ruleLt y x = false)
theorem BsA.start (v : List Rule) (x : Rule) : BsA v x 0 v.length := ⟨.inl rfl, .inl (Nat.le_refl _)⟩
theorem BsA.up {v : List Rule} {x y : Rule} {i j h : Nat} (g : BsA v x i j) (hy : v[h]? = some y) (hl : ruleLt y x = true) : BsA v x (h + 1) j := ⟨.inr ⟨h, y, rfl, hy, hl⟩, g.2⟩
theorem BsA.down {v : List Rule} {x y : Rule} {i j h : Nat} (g : BsA v x i j) (hy : v[h]? = some y) (hl : ruleLt y x = false) : BsA v x i h := ⟨g.1, .inr ⟨y, hy, hl⟩⟩
theorem srt_mono {v : List Rule} (hv : Srt ruleLt v) {i j : Nat} {a b : Rule} (hij : i ≤ j) (ha : v[i]? = some a) (hb : v[j]? = some b) : ruleLt b a = false := by
  rcases Nat.lt_or_eq_of_le hij with h | rfl
  · obtain ⟨h1, rfl⟩ := List.getElem?_eq_some_iff.1 ha
    obtain ⟨h2, rfl⟩ := List.getElem?_eq_some_iff.1 hb
    exact List.pairwise_iff_getElem.1 hv i j h1 h2 h
  · rw [ha] at hb; obtain rfl : a = b := by simpa using hb
    exact ruleLt_weak.irr _
theorem BsA.done {v : List Rule} {x : Rule} {i : Nat} (g : BsA v x i i) (hv : Srt ruleLt v) : (∀ y ∈ v.take i, ruleLt y x = true) ∧ ∀ y ∈ v.drop i, ruleLt y x = false := by
  constructor
  · intro y hy
    rcases g.1 with rfl | ⟨h, z, rfl, hz, hl⟩
    · simp at hy
    obtain ⟨k, hk, e⟩ := List.getElem_of_mem hy
    have hk' : v[k]? = some y := by rw [← e, List.getElem_take]; exact List.getElem?_eq_getElem _
    have hkh : k ≤ h := by simp at hk; omega
    exact ruleLt_weak.le_lt (srt_mono hv hkh hk' hz) hl
  · intro y hy
    obtain ⟨k, hk, e⟩ := List.getElem_of_mem hy
    have hk' : v[i + k]? = some y := by rw [← e, List.getElem_drop]; exact List.getElem?_eq_getElem _
    rcases g.2 with h | ⟨z, hz, hl⟩
    · have := (List.getElem?_eq_some_iff.1 hk').1; omega
    · exact ruleLt_weak.neg (srt_mono hv (by omega) hz hk') hl
end Go.St
namespace Go.Proofs.Ytcfcdembhjnjfaa
open Go.RowKit Go.St

set_option maxRecDepth 100000 in
set_option maxHeartbeats 8000000 in
theorem symA_c (g n cap a m b : Nat) (p v s : List Rule) (x : Rule) (junk : List Value) (w : World) (h : RR w g 28 (p ++ x :: (v ++ s)) junk) (hn : (p ++ x :: (v ++ s)).length = n) (hbig : n ≤ 100000000000000)
    (ha : p.length = a) (hm : m = a + 1) (hb : m + v.length = b) (hv : Srt ruleLt v) :
    Calls Try.prog 64 #[.slice (some ⟨g, 0, none⟩) n cap, .int .i64 a, .int .i64 m, .int .i64 b, .func (.func 37) #[] #[]] w fun e w' => e = .returned (.tuple #[]) ∧ (∃ v1 v2, v = v1 ++ v2 ∧ (∀ y ∈ v1, ruleLt y x = true) ∧ (∀ y ∈ v2, ruleLt y x = false) ∧ RR w' g 28 (p ++ (v1 ++ x :: (v2 ++ s))) junk) ∧ Near g w w' := by
  have hx0 : (p ++ x :: (v ++ s))[a]? = some x := Go.St.get_at p _ x ha.symm
  have hget : ∀ h y, m ≤ h → h < b → (p ++ x :: (v ++ s))[h]? = some y → v[h - m]? = some y := by
    intro h y h1 h2 h3
    rw [List.getElem?_append_right (by omega), show h - p.length = (h - m) + 1 by omega, List.getElem?_cons_succ, List.getElem?_append_left (by omega)] at h3
    exact h3
  have hbn : b ≤ n := by simp only [List.length_append, List.length_cons] at hn; omega
  have hvl : v.length = b - m := by omega
  have hxr := h.elem hx0
  have hst : Hid (BsA v x (m - m) (b - m)) := by have := BsA.start v x; rw [hvl] at this; rw [Nat.sub_self]; exact this
  have hfin : ∀ i, m ≤ i → i ≤ b → BsA v x (i - m) (i - m) → ∃ v1 v2, v = v1 ++ v2 ∧ v1.length = i - m ∧ (∀ y ∈ v1, ruleLt y x = true) ∧ (∀ y ∈ v2, ruleLt y x = false) := fun i h1 h2 h3 =>
    ⟨v.take (i - m), v.drop (i - m), (List.take_append_drop _ _).symm, by simp; omega, (h3.done hv).1, (h3.done hv).2⟩
  have HF := Lib.hid hfin
  generalize hz0 : p ++ x :: (v ++ s) = z0 at *
  have HZ := Lib.hid hz0
  have HG := Lib.hid hget
  have HX0 := Lib.hid hx0
  have HA := Lib.hid ha
  have hmb : m ≤ b := by omega
  have e1 : (m : Int) - (a : Int) = 1 := by omega
  have han : a < n := by omega
  have hm' : a < m := by omega
  have hm2 : m ≤ a + 1 := by omega
  have hl1 : z0.length ≤ n := by omega
  have hl2 : n ≤ z0.length := by omega
  clear hget hx0 hv hvl hb hm hn ha hz0 hfin
  go_enter Try.func64, Try.ntmps64
  go_wp2
  go_loopw [10, 11, 12] (fun ii jj _ wr => ∃ (i j : Nat), ii = .int .i64 i ∧ jj = .int .i64 j ∧ m ≤ i ∧ i ≤ j ∧ j ≤ b ∧ Hid (BsA v x (i - m) (j - m)) ∧ RR wr g 28 z0 junk ∧ Hid (Near g w wr)) (fun ii jj _ _ => (intOf jj).toNat - (intOf ii).toNat)
  case atStart => exact ⟨m, b, rfl, rfl, Nat.le_refl _, hmb, Nat.le_refl _, hst, h, Near.refl _ _⟩
  case round =>
    clear hst h
    obtain ⟨i, j, rfl, rfl, hi, hij, hjb, hS, hR, hN⟩ := hrel
    rename World => wo
    by_cases hlt : i < j
    case neg =>
      obtain rfl : i = j := by omega
      obtain ⟨v1, v2, hv12, hv1, hlo, hhi⟩ := HF.out i hi hjb hS.out
      have HV12 := Lib.hid hv12
      have HLO := Lib.hid hlo
      have HHI := Lib.hid hhi
      have hM := Lib.hid (show MvU p x v1 (v2 ++ s) (a - a) z0 by rw [← HZ.out, HV12.out, Nat.sub_self, List.append_assoc]; exact MvU.zero _ _ _ _)
      have hmz : ∀ k zs, MvU p x v1 (v2 ++ s) k zs → zs.length = n := fun k zs h => by
        have h1 := h.len; have h2 := hM.out.len; omega
      have hms : ∀ k zs y z, MvU p x v1 (v2 ++ s) (k - a) zs → a ≤ k → k + 1 < i → zs[k]? = some y → zs[k + 1]? = some z → MvU p x v1 (v2 ++ s) (k + 1 - a) ((zs.set k z).set (k + 1) y) := by
        intro k zs y z h1 h2 h3 h4 h5
        have e0 := HA.out
        have e3 : k = p.length + (k - a) := by omega
        have e4 : k + 1 = p.length + (k - a) + 1 := by omega
        rw [e4] at h5
        rw [e3] at h4
        have := h1.step (by omega) h4 h5
        rw [← e4, ← e3] at this
        rw [show k + 1 - a = k - a + 1 by omega]
        exact this
      have hmd : ∀ k zs, MvU p x v1 (v2 ++ s) (k - a) zs → i ≤ k + 1 → zs = p ++ (v1 ++ x :: (v2 ++ s)) := fun k zs h1 h2 => h1.done (by omega)
      have HMZ := Lib.hid hmz
      have HMS := Lib.hid hms
      have HMD := Lib.hid hmd
      have b1 : ¬ (i : Int) < (i : Int) := by omega
      clear hmz hms hmd hv1 hv12 hlo hhi hS
      go_wp2
      go_loopw [13] (fun kk wr => ∃ (k : Nat) (zs : List Rule), kk = .int .i64 k ∧ a ≤ k ∧ k + 1 ≤ i ∧ Hid (MvU p x v1 (v2 ++ s) (k - a) zs) ∧ RR wr g 28 zs junk ∧ Hid (Near g w wr)) (fun kk _ => i - (intOf kk).toNat)
      case atStart => exact ⟨a, z0, rfl, Nat.le_refl _, by omega, hM, hR, hN⟩
      case round =>
      clear hM hR hN
      obtain ⟨k, zs, rfl, hk, hki, hM, hR, hN⟩ := hrel
      rename World => wi
      have hl := HMZ.out _ zs hM.out
      have hl3 : zs.length ≤ n := by omega
      have hl4 : n ≤ zs.length := by omega
      clear hl
      by_cases hk1 : k + 1 < i
      case neg =>
        have b2 : ¬ (k : Int) < (i : Int) - 1 := by omega
        have HE := Lib.hid (HMD.out k zs hM.out (by omega))
        clear hM
        go_wp2
        go_returns; exact ⟨rfl, ⟨v1, v2, HV12.out, HLO.out, HHI.out, by rw [← HE.out]; exact hR⟩, hN.out⟩
      have b2 : (k : Int) < (i : Int) - 1 := by omega
      obtain ⟨y, hy⟩ : ∃ y, zs[k]? = some y := ⟨_, List.getElem?_eq_getElem (by omega)⟩
      obtain ⟨z, hz⟩ : ∃ z, zs[k + 1]? = some z := ⟨_, List.getElem?_eq_getElem (by omega)⟩
      have HM := Lib.hid (HMS.out k zs y z hM.out hk hk1 hy hz)
      have HX := Lib.hid hy
      have HY := Lib.hid hz
      have hxr := hR.elem hy
      have hyr := hR.elem hz
      have hkn : k + 1 < n := by omega
      clear hM hy hz
      obtain ⟨x0, x1, x2⟩ := hR.get HX.out
      obtain ⟨y0, y1, y2⟩ := hR.get HY.out
      have hfz := hR.frz
      have hgl := hR.lt
      go_wp2
      go_region
      have hR2 := hR.swap (i := k) (j := k + 1) (x := y) (y := z) (by omega) (by omega) hxr hyr
      have hN2 := Lib.hid (hN.out.swap (k) (k + 1) z y)
      simp only [put2] at hR2 hN2
      go_wp2
      case roundEnd =>
        go_roundw
        case rel => exact ⟨k + 1, _, by go_num, by omega, by omega, HM, hR2, hN2⟩
        case measure => simp [intOf] <;> omega
    have b1 : (i : Int) < (j : Int) := by omega
    obtain ⟨h, e2⟩ : ∃ h : Nat, ((i : Int) + j) / 2 = (h : Int) := ⟨(i + j) / 2, by omega⟩
    have h1 : i ≤ h := by omega
    have h2 : h < j := by omega
    obtain ⟨y, hy⟩ : ∃ y, z0[h]? = some y := ⟨_, List.getElem?_eq_getElem (by omega)⟩
    have hvy := HG.out h y (by omega) (by omega) hy
    have hU : ruleLt y x = true → Hid (BsA v x (h + 1 - m) (j - m)) := fun hl => by rw [show h + 1 - m = h - m + 1 by omega]; exact hS.out.up hvy hl
    have hD : ruleLt y x = false → Hid (BsA v x (i - m) (h - m)) := fun hl => hS.out.down hvy hl
    have HU := Lib.hid hU
    have HD := Lib.hid hD
    have hS0 := R2.of hR hy HX0.out
    have ob := order_bool y x
    have hhn : h < n := by omega
    have hgl := hR.lt
    have k1 : ¬ (n : Int) ≤ (h : Int) := by omega
    have k2 : ¬ (n : Int) ≤ (a : Int) := by omega
    have hyr := hR.elem hy
    clear hS hy hvy hU hD
    go_wp2
    refine wp_region_to (R2 g (h * 3) (a * 3) y x) 99 (fun a0 a' w' => ∃ v40 v41 v42 v43 v44 v45 v46 v47 v48 v49, a' = puts a0 [(40, v40), (41, v41), (42, v42), (43, v43), (44, v44), (45, v45), (46, v46), (47, v47), (48, v48), (49, v49), (50, .bool (ruleLt y x))] ∧ Below wo.heap.size wo w') (by kernel_rfl) ?_ ?_
    · intro Q' hR hQp
      have hb0 : Below wo.heap.size wo wo.drew := by (repeat' (first | with_reducible exact Below.refl _ _ | with_reducible assumption | with_reducible refine Below.drew ?_ | with_reducible refine Below_drewN ?_ _ | with_reducible refine Below.alloc ?_ ?_ _ | with_reducible refine Below.setCell ?_ ?_ _ | omega | (simp; done) | (simp; omega)))
      have hS : R2 g (h * 3) (a * 3) y x wo.drew := hS0
      generalize wo.drew = wa at *
      refine wpAnyK_take' (i := 0) (.func (.func 37) #[] #[]) rfl (by kernel_rfl) (fun _ _ _ h => hQp _ _ _ _ h) hS (yields_value (by kernel_rfl) (by intro w0 hw0; have hw1 := hw0; simp only [R2] at hw1; go_simp)) ?_; simp only [Act.put, List.getElem_toArray, List.getElem_cons_succ, List.getElem_cons_zero, List.setIfInBounds_toArray, List.set_cons_succ, List.set_cons_zero]
      refine wpAnyK_take' (i := 1) (.slice (some ⟨g, 0, none⟩) n cap) rfl (by kernel_rfl) (fun _ _ _ h => hQp _ _ _ _ h) hS (yields_value (by kernel_rfl) (by intro w0 hw0; have hw1 := hw0; simp only [R2] at hw1; go_simp)) ?_; simp only [Act.put, List.getElem_toArray, List.getElem_cons_succ, List.getElem_cons_zero, List.setIfInBounds_toArray, List.set_cons_succ, List.set_cons_zero]
      refine wpAnyK_take' (i := 2) (.int .i64 h) rfl (by kernel_rfl) (fun _ _ _ h => hQp _ _ _ _ h) hS (yields_value (by kernel_rfl) (by intro w0 hw0; have hw1 := hw0; simp only [R2] at hw1; go_simp)) ?_; simp only [Act.put, List.getElem_toArray, List.getElem_cons_succ, List.getElem_cons_zero, List.setIfInBounds_toArray, List.set_cons_succ, List.set_cons_zero]
      refine wpAnyK_take' (i := 3) (.pointer (some ⟨g, h * 3, none⟩)) rfl (by kernel_rfl) (fun _ _ _ h => hQp _ _ _ _ h) hS (yields_value (by kernel_rfl) (by intro w0 hw0; have hw1 := hw0; simp only [R2] at hw1; go_simp)) ?_; simp only [Act.put, List.getElem_toArray, List.getElem_cons_succ, List.getElem_cons_zero, List.setIfInBounds_toArray, List.set_cons_succ, List.set_cons_zero]
      refine wpAnyK_take' (i := 4) (.agg #[.int .i64 y.ver, .int .i64 y.flow, .int .i64 y.next]) rfl (by kernel_rfl) (fun _ _ _ h => hQp _ _ _ _ h) hS (yields_value (by kernel_rfl) (by intro w0 hw0; have hw1 := hw0; simp only [R2] at hw1; go_simp)) ?_; simp only [Act.put, List.getElem_toArray, List.getElem_cons_succ, List.getElem_cons_zero, List.setIfInBounds_toArray, List.set_cons_succ, List.set_cons_zero]
      refine wpAnyK_take' (i := 5) (.slice (some ⟨g, 0, none⟩) n cap) rfl (by kernel_rfl) (fun _ _ _ h => hQp _ _ _ _ h) hS (yields_value (by kernel_rfl) (by intro w0 hw0; have hw1 := hw0; simp only [R2] at hw1; go_simp)) ?_; simp only [Act.put, List.getElem_toArray, List.getElem_cons_succ, List.getElem_cons_zero, List.setIfInBounds_toArray, List.set_cons_succ, List.set_cons_zero]
      refine wpAnyK_take' (i := 6) (.int .i64 a) rfl (by kernel_rfl) (fun _ _ _ h => hQp _ _ _ _ h) hS (yields_value (by kernel_rfl) (by intro w0 hw0; have hw1 := hw0; simp only [R2] at hw1; go_simp)) ?_; simp only [Act.put, List.getElem_toArray, List.getElem_cons_succ, List.getElem_cons_zero, List.setIfInBounds_toArray, List.set_cons_succ, List.set_cons_zero]
      refine wpAnyK_take' (i := 7) (.pointer (some ⟨g, a * 3, none⟩)) rfl (by kernel_rfl) (fun _ _ _ h => hQp _ _ _ _ h) hS (yields_value (by kernel_rfl) (by intro w0 hw0; have hw1 := hw0; simp only [R2] at hw1; go_simp)) ?_; simp only [Act.put, List.getElem_toArray, List.getElem_cons_succ, List.getElem_cons_zero, List.setIfInBounds_toArray, List.set_cons_succ, List.set_cons_zero]
      refine wpAnyK_take' (i := 8) (.agg #[.int .i64 x.ver, .int .i64 x.flow, .int .i64 x.next]) rfl (by kernel_rfl) (fun _ _ _ h => hQp _ _ _ _ h) hS (yields_value (by kernel_rfl) (by intro w0 hw0; have hw1 := hw0; simp only [R2] at hw1; go_simp)) ?_; simp only [Act.put, List.getElem_toArray, List.getElem_cons_succ, List.getElem_cons_zero, List.setIfInBounds_toArray, List.set_cons_succ, List.set_cons_zero]
      clear hS
      refine wpAnyK_call (i := 9) rfl (by kernel_rfl) (by kernel_rfl) fun K9 hK9 => ?_
      go_simp
      go_wp2_with fail
      refine (order_c y x wa).mono ?_
      rintro e wb ⟨rfl, hb1⟩
      go_wp2_with fail
      have hb2 : Below wo.heap.size wo wb := hb0.trans (hb1.mono hb0.size)
      have hS := hS0.under hgl hb2
      refine hK9 _ _ (fun _ => hS) ?_
      clear hK9
      refine wpAnyK_take' (i := 10) (.bool (ruleLt y x)) rfl (by kernel_rfl) (fun _ _ _ h => hQp _ _ _ _ h) hS (yields_value (by kernel_rfl) (by intro w0 hw0; have hw1 := hw0; simp only [R2] at hw1; go_simp)) ?_; simp only [Act.put, List.getElem_toArray, List.getElem_cons_succ, List.getElem_cons_zero, List.setIfInBounds_toArray, List.set_cons_succ, List.set_cons_zero]
      refine wpAnyK_done (by kernel_rfl) ?_ _
      refine hR _ _ ?_
      iterate 10 apply Exists.intro
      refine ⟨?_, hb2⟩
      simp only [puts, Act.put, List.setIfInBounds_toArray, List.set_cons_succ, List.set_cons_zero]
      rfl
    rintro a' w8 ⟨v40, v41, v42, v43, v44, v45, v46, v47, v48, v49, rfl, hb8⟩
    simp only [puts, Act.put, List.setIfInBounds_toArray, List.set_cons_succ, List.set_cons_zero]
    have hR8 := hR.under hb8
    have hN8 : Hid (Near g w w8) := hN.out.then hb8
    clear hR hN hS0 hb8
    by_cases hyx : ruleLt y x = true
    · have hS := HU.out hyx
      rw [hyx]
      clear HU HD
      go_wp2
      case roundEnd =>
        go_roundw
        case rel => exact ⟨h + 1, j, by go_num, rfl, by omega, by omega, hjb, hS, hR8, hN8⟩
        case measure => simp [intOf] <;> omega
    · have hyx' : ruleLt y x = false := by simpa using hyx
      have hS := HD.out hyx'
      rw [hyx']
      clear HU HD hyx
      go_wp2
      case roundEnd =>
        go_roundw
        case rel => exact ⟨i, h, rfl, rfl, hi, h1, by omega, hS, hR8, hN8⟩
        case measure => simp [intOf] <;> omega

end Go.Proofs.Ytcfcdembhjnjfaa
