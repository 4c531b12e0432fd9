/-
  The walk of slices.insertionSortCmpFunc at rules.
-/
import Derived.Test.YtcfcdembhjnjfaaSwapW
set_option linter.unusedSimpArgs false
set_option linter.unusedVariables false
namespace Go.St
open Go.RowKit
/-- two rules of a row, as they are read -/
def R2 (g o o' : Nat) (x y : Rule) (w : World) : Prop :=
  w.cell? ⟨g, o, none⟩ = some (.int .i64 x.ver) ∧ w.cell? ⟨g, o + 1, none⟩ = some (.int .i64 x.flow) ∧ w.cell? ⟨g, o + 2, none⟩ = some (.int .i64 x.next) ∧
  w.cell? ⟨g, o', none⟩ = some (.int .i64 y.ver) ∧ w.cell? ⟨g, o' + 1, none⟩ = some (.int .i64 y.flow) ∧ w.cell? ⟨g, o' + 2, none⟩ = some (.int .i64 y.next)
theorem R2.of {w : World} {g : Nat} {t : TypeId} {zs : List Rule} {junk : List Value} (h : RR w g t zs junk) {i j : Nat} {x y : Rule} (hx : zs[i]? = some x) (hy : zs[j]? = some y) : R2 g (i * 3) (j * 3) x y w :=
  ⟨(h.get hx).1, (h.get hx).2.1, (h.get hx).2.2, (h.get hy).1, (h.get hy).2.1, (h.get hy).2.2⟩
theorem order_bool (x y : Rule) : (decide (orderOf x y < 0)) = ruleLt x y := by
  rw [Bool.eq_iff_iff, decide_eq_true_eq, orderOf_lt]
theorem R2.under {g o o' : Nat} {x y : Rule} {w w' : World} (h : R2 g o o' x y w) (hg : g < w.heap.size) (hb : Below w.heap.size w w') : R2 g o o' x y w' := by
  have e : ∀ k, w'.cell? ⟨g, k, none⟩ = w.cell? ⟨g, k, none⟩ := fun k => hb.cell hg
  unfold R2 at *
  simp only [e]; exact h
end Go.St
namespace Go.Proofs.Ytcfcdembhjnjfaa
open Go.RowKit Go.St

set_option maxRecDepth 100000 in
set_option maxHeartbeats 8000000 in
theorem insSort_c (g n cap a b : Nat) (p u s : List Rule) (junk : List Value) (w : World) (h : RR w g 28 (p ++ (u ++ s)) junk) (hn : (p ++ (u ++ s)).length = n) (hbig : n ≤ 100000000000000)
    (ha : p.length = a) (hb : a + u.length = b) :
    Calls Try.prog 63 #[.slice (some ⟨g, 0, none⟩) n cap, .int .i64 a, .int .i64 b, .func (.func 37) #[] #[]] w fun e w' => e = .returned (.tuple #[]) ∧ (∃ v, RR w' g 28 (p ++ (v ++ s)) junk ∧ v.length = u.length ∧ Srt ruleLt v ∧ Stab ruleLt u v) ∧ Near g w w' := by
  have hgo : ∀ i ys, InsO ruleLt p u s (i - a) ys → a ≤ i → i < b → InsI ruleLt p u s (i - a) (i - a) ys := fun i ys h1 h2 h3 => h1.go (by omega)
  have hdown : ∀ i jp zs x y, InsI ruleLt p u s (i - a) (jp + 1 - a) zs → a ≤ jp → zs[jp + 1]? = some x → zs[jp]? = some y → ruleLt x y = true → InsI ruleLt p u s (i - a) (jp - a) ((zs.set (jp + 1) y).set jp x) := by
    intro i jp zs x y h1 h2 h3 h4 h5
    have e1 : jp + 1 - a = (jp - a) + 1 := by omega
    have e2 : jp + 1 = p.length + ((jp - a) + 1) := by omega
    have e3 : jp = p.length + (jp - a) := by omega
    rw [e1] at h1
    rw [e2] at h3
    rw [e3] at h4
    have := h1.down ruleLt_weak h3 h4 h5
    rw [← e2, ← e3] at this
    exact this
  have hstop : ∀ i jp zs x y, InsI ruleLt p u s (i - a) (jp + 1 - a) zs → a ≤ i → a ≤ jp → zs[jp + 1]? = some x → zs[jp]? = some y → ruleLt x y = false → InsO ruleLt p u s (i + 1 - a) zs := by
    intro i jp zs x y h1 h0 h2 h3 h4 h5
    have e1 : jp + 1 - a = (jp - a) + 1 := by omega
    have e2 : jp + 1 = p.length + ((jp - a) + 1) := by omega
    have e3 : jp = p.length + (jp - a) := by omega
    have e4 : i + 1 - a = (i - a) + 1 := by omega
    rw [e4]
    refine h1.stop ruleLt_weak (.inr ⟨jp - a, x, y, e1, by rw [← e2]; exact h3, by rw [← e3]; exact h4, h5⟩)
  have hstop0 : ∀ i zs, InsI ruleLt p u s (i - a) (a - a) zs → a ≤ i → InsO ruleLt p u s (i + 1 - a) zs := by
    intro i zs h1 h0
    have e4 : i + 1 - a = (i - a) + 1 := by omega
    rw [e4]
    exact h1.stop ruleLt_weak (.inl (by omega))
  have hend : ∀ i ys, InsO ruleLt p u s (i - a) ys → b ≤ i → ∃ v, ys = p ++ (v ++ s) ∧ v.length = u.length ∧ Srt ruleLt v ∧ Stab ruleLt u v := fun i ys h1 h2 => h1.done (by omega)
  have hlenO : ∀ i zs, InsO ruleLt p u s i zs → zs.length = n := fun i zs h1 => by rw [h1.len, hn]
  have hlenI : ∀ i m zs, InsI ruleLt p u s i m zs → zs.length = n := fun i m zs h1 => by rw [h1.len, hn]
  have hbn : b ≤ n := by simp only [List.length_append] at hn; omega
  have hab : a ≤ b := by omega
  have hst : Hid (InsO ruleLt p u s (a + 1 - a) (p ++ (u ++ s))) := by have := InsO.one (lt := ruleLt) p u s; rw [show a + 1 - a = 1 by omega]; exact this
  have HG := Lib.hid hgo
  have HD := Lib.hid hdown
  have HS := Lib.hid hstop
  have HS0 := Lib.hid hstop0
  have HE := Lib.hid hend
  have HLO := Lib.hid hlenO
  have HLI := Lib.hid hlenI
  clear hgo hdown hstop hstop0 hend hlenO hlenI ha hb hn
  generalize hz0 : p ++ (u ++ s) = z0 at *
  clear hz0
  go_enter Try.func63, Try.ntmps63
  go_wp2
  go_loopw [8, 9] (fun ii _ wr => ∃ (i : Nat) (zs : List Rule), ii = .int .i64 i ∧ a < i ∧ i ≤ b + 1 ∧ Hid (InsO ruleLt p u s (i - a) zs) ∧ RR wr g 28 zs junk ∧ Hid (Near g w wr)) (fun ii _ _ => b + 1 - (intOf ii).toNat)
  case atStart => exact ⟨a + 1, z0, by go_num, by omega, by omega, hst, h, Near.refl _ _⟩
  case round =>
    clear hst h
    obtain ⟨i, zs, rfl, hi, hib, hO, hR, hN⟩ := hrel
    rename World => wo
    by_cases hlt : i < b
    case neg =>
      have b1 : ¬ (i : Int) < (b : Int) := by omega
      obtain ⟨v, hv0, hv1, hv2, hv3⟩ := HE.out i zs hO.out (by omega)
      have HZ := Lib.hid hv0
      clear hv0 hO
      go_wp2
      go_returns; exact ⟨rfl, ⟨v, by rw [← HZ.out]; exact hR, hv1, hv2, hv3⟩, hN.out⟩
    have b1 : (i : Int) < (b : Int) := by omega
    have hI := Lib.hid (HG.out i zs hO.out (by omega) hlt)
    clear hO
    go_wp2
    go_loopw [9] (fun jj wr => ∃ (j : Nat) (zs : List Rule), jj = .int .i64 j ∧ a ≤ j ∧ j ≤ i ∧ Hid (InsI ruleLt p u s (i - a) (j - a) zs) ∧ RR wr g 28 zs junk ∧ Hid (Near g w wr)) (fun jj _ => (intOf jj).toNat)
    case atStart => exact ⟨i, zs, rfl, by omega, by omega, hI, hR, hN⟩
    case round =>
      clear hI hR hN
      clear zs
      obtain ⟨j, zs, rfl, hj, hji, hI, hR, hN⟩ := hrel
      rename World => wi
      have hl := HLI.out _ _ zs hI.out
      have hl1 : zs.length ≤ n := by omega
      have hl2 : n ≤ zs.length := by omega
      have hgl := hR.lt
      clear hl
      by_cases hja : a < j
      case neg =>
        obtain rfl : j = a := by omega
        have hO := Lib.hid (HS0.out i zs hI.out (by omega))
        clear hI
        have b2 : ¬ (j : Int) < (j : Int) := by omega
        go_wp2
        refine wp_region_to (fun _ => True) 99 (fun a0 a' w' => ∃ v18 v19 v20 v21 v22 v23 v24 v25 v26 v27 v28 v29 v30 v31 v32 v33, a' = puts a0 [(18, v18), (19, v19), (20, v20), (21, v21), (22, v22), (23, v23), (24, v24), (25, v25), (26, v26), (27, v27), (28, v28), (29, v29), (30, v30), (31, v31), (32, v32), (33, v33), (34, .bool false)] ∧ w' = wi.drew) (by kernel_rfl) ?_ ?_
        · intro Q' hR hQp
          have hS : (fun _ : World => True) wi.drew := trivial
          refine wpAnyK_take' (i := 0) (.int .i64 j) rfl (by kernel_rfl) (fun _ _ _ h => hQp _ _ _ _ h) hS (yields_value (by kernel_rfl) (by intro w0 hw0; go_simp)) ?_; simp only [Act.put, List.getElem_toArray, List.getElem_cons_succ, List.getElem_cons_zero, List.setIfInBounds_toArray, List.set_cons_succ, List.set_cons_zero]
          refine wpAnyK_take' (i := 1) (.int .i64 j) rfl (by kernel_rfl) (fun _ _ _ h => hQp _ _ _ _ h) hS (yields_value (by kernel_rfl) (by intro w0 hw0; go_simp)) ?_; simp only [Act.put, List.getElem_toArray, List.getElem_cons_succ, List.getElem_cons_zero, List.setIfInBounds_toArray, List.set_cons_succ, List.set_cons_zero]
          refine wpAnyK_take' (i := 2) (.bool false) rfl (by kernel_rfl) (fun _ _ _ h => hQp _ _ _ _ h) hS (yields_value (by kernel_rfl) (by intro w0 hw0; go_simp)) ?_; simp only [Act.put, List.getElem_toArray, List.getElem_cons_succ, List.getElem_cons_zero, List.setIfInBounds_toArray, List.set_cons_succ, List.set_cons_zero]
          refine wpAnyK_take' (i := 3) (.bool false) rfl (by kernel_rfl) (fun _ _ _ h => hQp _ _ _ _ h) hS (yields_value (by kernel_rfl) (by intro w0 hw0; go_simp)) ?_; simp only [Act.put, List.getElem_toArray, List.getElem_cons_succ, List.getElem_cons_zero, List.setIfInBounds_toArray, List.set_cons_succ, List.set_cons_zero]
          refine wpAnyK_take' (i := 4) undef rfl (by kernel_rfl) (fun _ _ _ h => hQp _ _ _ _ h) hS (.inr ⟨by kernel_rfl, rfl⟩) ?_; simp only [Act.put, List.getElem_toArray, List.getElem_cons_succ, List.getElem_cons_zero, List.setIfInBounds_toArray, List.set_cons_succ, List.set_cons_zero]
          refine wpAnyK_take' (i := 5) undef rfl (by kernel_rfl) (fun _ _ _ h => hQp _ _ _ _ h) hS (.inr ⟨by kernel_rfl, rfl⟩) ?_; simp only [Act.put, List.getElem_toArray, List.getElem_cons_succ, List.getElem_cons_zero, List.setIfInBounds_toArray, List.set_cons_succ, List.set_cons_zero]
          refine wpAnyK_take' (i := 6) undef rfl (by kernel_rfl) (fun _ _ _ h => hQp _ _ _ _ h) hS (.inr ⟨by kernel_rfl, rfl⟩) ?_; simp only [Act.put, List.getElem_toArray, List.getElem_cons_succ, List.getElem_cons_zero, List.setIfInBounds_toArray, List.set_cons_succ, List.set_cons_zero]
          refine wpAnyK_take' (i := 7) undef rfl (by kernel_rfl) (fun _ _ _ h => hQp _ _ _ _ h) hS (.inr ⟨by kernel_rfl, rfl⟩) ?_; simp only [Act.put, List.getElem_toArray, List.getElem_cons_succ, List.getElem_cons_zero, List.setIfInBounds_toArray, List.set_cons_succ, List.set_cons_zero]
          refine wpAnyK_take' (i := 8) undef rfl (by kernel_rfl) (fun _ _ _ h => hQp _ _ _ _ h) hS (.inr ⟨by kernel_rfl, rfl⟩) ?_; simp only [Act.put, List.getElem_toArray, List.getElem_cons_succ, List.getElem_cons_zero, List.setIfInBounds_toArray, List.set_cons_succ, List.set_cons_zero]
          refine wpAnyK_take' (i := 9) undef rfl (by kernel_rfl) (fun _ _ _ h => hQp _ _ _ _ h) hS (.inr ⟨by kernel_rfl, rfl⟩) ?_; simp only [Act.put, List.getElem_toArray, List.getElem_cons_succ, List.getElem_cons_zero, List.setIfInBounds_toArray, List.set_cons_succ, List.set_cons_zero]
          refine wpAnyK_take' (i := 10) undef rfl (by kernel_rfl) (fun _ _ _ h => hQp _ _ _ _ h) hS (.inr ⟨by kernel_rfl, rfl⟩) ?_; simp only [Act.put, List.getElem_toArray, List.getElem_cons_succ, List.getElem_cons_zero, List.setIfInBounds_toArray, List.set_cons_succ, List.set_cons_zero]
          refine wpAnyK_take' (i := 11) undef rfl (by kernel_rfl) (fun _ _ _ h => hQp _ _ _ _ h) hS (.inr ⟨by kernel_rfl, rfl⟩) ?_; simp only [Act.put, List.getElem_toArray, List.getElem_cons_succ, List.getElem_cons_zero, List.setIfInBounds_toArray, List.set_cons_succ, List.set_cons_zero]
          refine wpAnyK_take' (i := 12) undef rfl (by kernel_rfl) (fun _ _ _ h => hQp _ _ _ _ h) hS (.inr ⟨by kernel_rfl, rfl⟩) ?_; simp only [Act.put, List.getElem_toArray, List.getElem_cons_succ, List.getElem_cons_zero, List.setIfInBounds_toArray, List.set_cons_succ, List.set_cons_zero]
          refine wpAnyK_take' (i := 13) undef rfl (by kernel_rfl) (fun _ _ _ h => hQp _ _ _ _ h) hS (.inr ⟨by kernel_rfl, rfl⟩) ?_; simp only [Act.put, List.getElem_toArray, List.getElem_cons_succ, List.getElem_cons_zero, List.setIfInBounds_toArray, List.set_cons_succ, List.set_cons_zero]
          refine wpAnyK_take' (i := 14) undef rfl (by kernel_rfl) (fun _ _ _ h => hQp _ _ _ _ h) hS (.inr ⟨by kernel_rfl, rfl⟩) ?_; simp only [Act.put, List.getElem_toArray, List.getElem_cons_succ, List.getElem_cons_zero, List.setIfInBounds_toArray, List.set_cons_succ, List.set_cons_zero]
          refine wpAnyK_take' (i := 15) undef rfl (by kernel_rfl) (fun _ _ _ h => hQp _ _ _ _ h) hS (.inr ⟨by kernel_rfl, rfl⟩) ?_; simp only [Act.put, List.getElem_toArray, List.getElem_cons_succ, List.getElem_cons_zero, List.setIfInBounds_toArray, List.set_cons_succ, List.set_cons_zero]
          refine wpAnyK_take' (i := 16) (.bool false) rfl (by kernel_rfl) (fun _ _ _ h => hQp _ _ _ _ h) hS (yields_value (by kernel_rfl) (by intro w0 hw0; go_simp)) ?_; simp only [Act.put, List.getElem_toArray, List.getElem_cons_succ, List.getElem_cons_zero, List.setIfInBounds_toArray, List.set_cons_succ, List.set_cons_zero]
          refine wpAnyK_done (by kernel_rfl) ?_ _
          refine hR _ _ ?_
          iterate 16 apply Exists.intro
          refine ⟨?_, rfl⟩
          simp only [puts, Act.put, List.setIfInBounds_toArray, List.set_cons_succ, List.set_cons_zero]
          rfl
        rintro a' w8 ⟨v18, v19, v20, v21, v22, v23, v24, v25, v26, v27, v28, v29, v30, v31, v32, v33, rfl, rfl⟩
        simp only [puts, Act.put, List.setIfInBounds_toArray, List.set_cons_succ, List.set_cons_zero]
        have hR2 := hR.drew
        have hN2 : Hid (Near g w wi.drew) := hN.out.drew
        go_wp2
        case roundEnd =>
          go_roundw
          case rel => exact ⟨i + 1, zs, by go_num, by omega, by omega, hO, hR2, hN2⟩
          case measure => simp [intOf] <;> omega
      obtain ⟨jp, rfl⟩ : ∃ jp, j = jp + 1 := ⟨j - 1, by omega⟩
      obtain ⟨x, hx⟩ : ∃ x, zs[jp + 1]? = some x := ⟨_, List.getElem?_eq_getElem (by omega)⟩
      obtain ⟨y, hy⟩ : ∃ y, zs[jp]? = some y := ⟨_, List.getElem?_eq_getElem (by omega)⟩
      have hS0 := R2.of hR hx hy
      have b2 : (a : Int) < (jp : Int) + 1 := by omega
      have hjn : jp + 1 < n := by omega
      have hjn' : jp < n := by omega
      have HD1 := Lib.hid (HD.out i jp zs x y hI.out (by omega) hx hy)
      have HS1 := Lib.hid (HS.out i jp zs x y hI.out (by omega) (by omega) hx hy)
      have hxr := hR.elem hx
      have hyr := hR.elem hy
      have HX := Lib.hid hx
      have HY := Lib.hid hy
      have ob := order_bool x y
      have k1 : IntKind.i64.wrap (jp : Int) = jp := IntWalk.i64_in _ (by omega)
      have k2 : (0 : Int) ≤ (jp : Int) + 1 := by omega
      have k3 : ¬ (n : Int) ≤ (jp : Int) + 1 := by omega
      have k4 : ¬ (n : Int) ≤ (jp : Int) := by omega
      clear hI hx hy
      go_wp2
      refine wp_region_to (R2 g ((jp + 1) * 3) (jp * 3) x y) 99 (fun a0 a' w' => ∃ v18 v19 v20 v21 v22 v23 v24 v25 v26 v27 v28 v29 v30 v31 v32 v33, a' = puts a0 [(18, v18), (19, v19), (20, v20), (21, v21), (22, v22), (23, v23), (24, v24), (25, v25), (26, v26), (27, v27), (28, v28), (29, v29), (30, v30), (31, v31), (32, v32), (33, v33), (34, .bool (ruleLt x y))] ∧ Below wi.heap.size wi w') (by kernel_rfl) ?_ ?_
      · intro Q' hR hQp
        have hb0 : Below wi.heap.size wi wi.drew := by (repeat' (first | with_reducible exact Below.refl _ _ | with_reducible assumption | with_reducible refine Below.drew ?_ | with_reducible refine Below_drewN ?_ _ | with_reducible refine Below.alloc ?_ ?_ _ | with_reducible refine Below.setCell ?_ ?_ _ | omega | (simp; done) | (simp; omega)))
        have hS : R2 g ((jp + 1) * 3) (jp * 3) x y wi.drew := hS0
        generalize wi.drew = wa at *
        refine wpAnyK_take' (i := 0) (.int .i64 (↑jp + 1)) rfl (by kernel_rfl) (fun _ _ _ h => hQp _ _ _ _ h) hS (yields_value (by kernel_rfl) (by intro w0 hw0; have hw1 := hw0; simp only [R2] at hw1; go_simp)) ?_; simp only [Act.put, List.getElem_toArray, List.getElem_cons_succ, List.getElem_cons_zero, List.setIfInBounds_toArray, List.set_cons_succ, List.set_cons_zero]
        refine wpAnyK_take' (i := 1) (.int .i64 a) rfl (by kernel_rfl) (fun _ _ _ h => hQp _ _ _ _ h) hS (yields_value (by kernel_rfl) (by intro w0 hw0; have hw1 := hw0; simp only [R2] at hw1; go_simp)) ?_; simp only [Act.put, List.getElem_toArray, List.getElem_cons_succ, List.getElem_cons_zero, List.setIfInBounds_toArray, List.set_cons_succ, List.set_cons_zero]
        refine wpAnyK_take' (i := 2) (.bool true) rfl (by kernel_rfl) (fun _ _ _ h => hQp _ _ _ _ h) hS (yields_value (by kernel_rfl) (by intro w0 hw0; have hw1 := hw0; simp only [R2] at hw1; go_simp)) ?_; simp only [Act.put, List.getElem_toArray, List.getElem_cons_succ, List.getElem_cons_zero, List.setIfInBounds_toArray, List.set_cons_succ, List.set_cons_zero]
        refine wpAnyK_take' (i := 3) (.bool true) rfl (by kernel_rfl) (fun _ _ _ h => hQp _ _ _ _ h) hS (yields_value (by kernel_rfl) (by intro w0 hw0; have hw1 := hw0; simp only [R2] at hw1; go_simp)) ?_; simp only [Act.put, List.getElem_toArray, List.getElem_cons_succ, List.getElem_cons_zero, List.setIfInBounds_toArray, List.set_cons_succ, List.set_cons_zero]
        refine wpAnyK_take' (i := 4) (.func (.func 37) #[] #[]) rfl (by kernel_rfl) (fun _ _ _ h => hQp _ _ _ _ h) hS (yields_value (by kernel_rfl) (by intro w0 hw0; have hw1 := hw0; simp only [R2] at hw1; go_simp)) ?_; simp only [Act.put, List.getElem_toArray, List.getElem_cons_succ, List.getElem_cons_zero, List.setIfInBounds_toArray, List.set_cons_succ, List.set_cons_zero]
        refine wpAnyK_take' (i := 5) (.slice (some ⟨g, 0, none⟩) n cap) rfl (by kernel_rfl) (fun _ _ _ h => hQp _ _ _ _ h) hS (yields_value (by kernel_rfl) (by intro w0 hw0; have hw1 := hw0; simp only [R2] at hw1; go_simp)) ?_; simp only [Act.put, List.getElem_toArray, List.getElem_cons_succ, List.getElem_cons_zero, List.setIfInBounds_toArray, List.set_cons_succ, List.set_cons_zero]
        refine wpAnyK_take' (i := 6) (.int .i64 (↑jp + 1)) rfl (by kernel_rfl) (fun _ _ _ h => hQp _ _ _ _ h) hS (yields_value (by kernel_rfl) (by intro w0 hw0; have hw1 := hw0; simp only [R2] at hw1; go_simp)) ?_; simp only [Act.put, List.getElem_toArray, List.getElem_cons_succ, List.getElem_cons_zero, List.setIfInBounds_toArray, List.set_cons_succ, List.set_cons_zero]
        refine wpAnyK_take' (i := 7) (.pointer (some ⟨g, (jp + 1) * 3, none⟩)) rfl (by kernel_rfl) (fun _ _ _ h => hQp _ _ _ _ h) hS (yields_value (by kernel_rfl) (by intro w0 hw0; have hw1 := hw0; simp only [R2] at hw1; go_simp)) ?_; simp only [Act.put, List.getElem_toArray, List.getElem_cons_succ, List.getElem_cons_zero, List.setIfInBounds_toArray, List.set_cons_succ, List.set_cons_zero]
        refine wpAnyK_take' (i := 8) (.agg #[.int .i64 x.ver, .int .i64 x.flow, .int .i64 x.next]) rfl (by kernel_rfl) (fun _ _ _ h => hQp _ _ _ _ h) hS (yields_value (by kernel_rfl) (by intro w0 hw0; have hw1 := hw0; simp only [R2] at hw1; go_simp)) ?_; simp only [Act.put, List.getElem_toArray, List.getElem_cons_succ, List.getElem_cons_zero, List.setIfInBounds_toArray, List.set_cons_succ, List.set_cons_zero]
        refine wpAnyK_take' (i := 9) (.slice (some ⟨g, 0, none⟩) n cap) rfl (by kernel_rfl) (fun _ _ _ h => hQp _ _ _ _ h) hS (yields_value (by kernel_rfl) (by intro w0 hw0; have hw1 := hw0; simp only [R2] at hw1; go_simp)) ?_; simp only [Act.put, List.getElem_toArray, List.getElem_cons_succ, List.getElem_cons_zero, List.setIfInBounds_toArray, List.set_cons_succ, List.set_cons_zero]
        refine wpAnyK_take' (i := 10) (.int .i64 (↑jp + 1)) rfl (by kernel_rfl) (fun _ _ _ h => hQp _ _ _ _ h) hS (yields_value (by kernel_rfl) (by intro w0 hw0; have hw1 := hw0; simp only [R2] at hw1; go_simp)) ?_; simp only [Act.put, List.getElem_toArray, List.getElem_cons_succ, List.getElem_cons_zero, List.setIfInBounds_toArray, List.set_cons_succ, List.set_cons_zero]
        refine wpAnyK_take' (i := 11) (.int .i64 jp) rfl (by kernel_rfl) (fun _ _ _ h => hQp _ _ _ _ h) hS (yields_value (by kernel_rfl) (by intro w0 hw0; have hw1 := hw0; simp only [R2] at hw1; go_simp)) ?_; simp only [Act.put, List.getElem_toArray, List.getElem_cons_succ, List.getElem_cons_zero, List.setIfInBounds_toArray, List.set_cons_succ, List.set_cons_zero]
        refine wpAnyK_take' (i := 12) (.pointer (some ⟨g, jp * 3, none⟩)) rfl (by kernel_rfl) (fun _ _ _ h => hQp _ _ _ _ h) hS (yields_value (by kernel_rfl) (by intro w0 hw0; have hw1 := hw0; simp only [R2] at hw1; go_simp)) ?_; simp only [Act.put, List.getElem_toArray, List.getElem_cons_succ, List.getElem_cons_zero, List.setIfInBounds_toArray, List.set_cons_succ, List.set_cons_zero]
        refine wpAnyK_take' (i := 13) (.agg #[.int .i64 y.ver, .int .i64 y.flow, .int .i64 y.next]) rfl (by kernel_rfl) (fun _ _ _ h => hQp _ _ _ _ h) hS (yields_value (by kernel_rfl) (by intro w0 hw0; have hw1 := hw0; simp only [R2] at hw1; go_simp)) ?_; simp only [Act.put, List.getElem_toArray, List.getElem_cons_succ, List.getElem_cons_zero, List.setIfInBounds_toArray, List.set_cons_succ, List.set_cons_zero]
        clear hS
        refine wpAnyK_call (i := 14) rfl (by kernel_rfl) (by kernel_rfl) fun K14 hK14 => ?_
        go_simp
        go_wp2_with fail
        refine (order_c x y wa).mono ?_
        rintro e wb ⟨rfl, hb1⟩
        go_wp2_with fail
        have hb2 : Below wi.heap.size wi wb := hb0.trans (hb1.mono hb0.size)
        have hS := hS0.under hgl hb2
        refine hK14 _ _ (fun _ => hS) ?_
        clear hK14
        refine wpAnyK_take' (i := 15) (.bool (ruleLt x y)) rfl (by kernel_rfl) (fun _ _ _ h => hQp _ _ _ _ h) hS (yields_value (by kernel_rfl) (by intro w0 hw0; have hw1 := hw0; simp only [R2] at hw1; go_simp)) ?_; simp only [Act.put, List.getElem_toArray, List.getElem_cons_succ, List.getElem_cons_zero, List.setIfInBounds_toArray, List.set_cons_succ, List.set_cons_zero]
        refine wpAnyK_take' (i := 16) (.bool (ruleLt x y)) rfl (by kernel_rfl) (fun _ _ _ h => hQp _ _ _ _ h) hS (yields_value (by kernel_rfl) (by intro w0 hw0; have hw1 := hw0; simp only [R2] at hw1; go_simp)) ?_; simp only [Act.put, List.getElem_toArray, List.getElem_cons_succ, List.getElem_cons_zero, List.setIfInBounds_toArray, List.set_cons_succ, List.set_cons_zero]
        refine wpAnyK_done (by kernel_rfl) ?_ _
        refine hR _ _ ?_
        iterate 16 apply Exists.intro
        refine ⟨?_, hb2⟩
        simp only [puts, Act.put, List.setIfInBounds_toArray, List.set_cons_succ, List.set_cons_zero]
        rfl
      rintro a' w8 ⟨v18, v19, v20, v21, v22, v23, v24, v25, v26, v27, v28, v29, v30, v31, v32, v33, rfl, hb8⟩
      simp only [puts, Act.put, List.setIfInBounds_toArray, List.set_cons_succ, List.set_cons_zero]
      have hR8 := hR.under hb8
      have hN8 : Hid (Near g w w8) := hN.out.then hb8
      clear hR hN hS0 hb8 k2 k3 k4
      by_cases hxy : ruleLt x y = true
      case neg =>
        have hxy' : ruleLt x y = false := by simpa using hxy
        have hO := Lib.hid (HS1.out hxy')
        rw [hxy']
        clear hxy HD1 HS1
        go_wp2
        case roundEnd =>
          go_roundw
          case rel => exact ⟨i + 1, zs, by go_num, by omega, by omega, hO, hR8, hN8⟩
          case measure => simp [intOf] <;> omega
      have hI := Lib.hid (HD1.out hxy)
      rw [hxy]
      clear HD1 HS1
      obtain ⟨x0, x1, x2⟩ := hR8.get HX.out
      obtain ⟨y0, y1, y2⟩ := hR8.get HY.out
      have hfz := hR8.frz
      have hgl := hR8.lt
      go_wp2
      go_region
      have hR2 := hR8.swap (i := jp + 1) (j := jp) (x := x) (y := y) (by omega) (by omega) hxr hyr
      have hN2 := Lib.hid (hN8.out.swap (jp + 1) jp y x)
      simp only [put2] at hR2 hN2
      go_wp2
      case roundEnd =>
        go_roundw
        case rel => exact ⟨jp, _, by go_num, by omega, by omega, hI, hR2, hN2⟩
        case measure => simp [intOf] <;> omega

end Go.Proofs.Ytcfcdembhjnjfaa
