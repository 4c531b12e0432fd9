/-
  The walk of the document's Add at tables.
-/
import Derived.Test.YtcfcdembhjnjfaaRefT
import Derived.Test.YtcfcdembhjnjfaaRefAS
import Derived.Test.YtcfcdembhjnjfaaJoin
import Derived.WalkKit
import Derived.WalkSpells
import Derived.WalkLawsBesides
import Derived.Lib.Hide
import Derived.Deep.LoopGhost
import Derived.Deep.QuietTactic
import Derived.BigQuiet
import Derived.Deep.RegionWith
import Derived.Handy
set_option linter.unusedSimpArgs false
set_option linter.unusedVariables false
namespace Go.St
open Go.RowKit
/-- what the three appends read -/
def SA (B : Nat) (r : Rule) (w : World) : Prop := w.cell? ⟨B, 0, none⟩ = some (.int .i64 r.ver) ∧ w.cell? ⟨B, 1, none⟩ = some (.int .i64 r.flow) ∧ w.cell? ⟨B, 2, none⟩ = some (.int .i64 r.next)
theorem SA.under {B : Nat} {r : Rule} {w w' : World} (h : SA B r w) (h1 : B < w.heap.size) (hb : Below w.heap.size w w') : SA B r w' := ⟨cell_at hb h1 h.1, cell_at hb h1 h.2.1, cell_at hb h1 h.2.2⟩
theorem srcRep.ruleB {e : TypeId} {w : World} (r : Rule) {b : Nat} (hb : blockIs w b e #[.int .i64 r.ver, .int .i64 r.flow, .int .i64 r.next]) (hr : RI r) {ok : Nat → Prop} : srcRep ruleS ok w (some ⟨b, 0, none⟩) [r] := by
  refine .inr ⟨b, 0, rfl, fun i x hx => ?_⟩
  match i, hx with
  | 0, hx =>
    obtain rfl : r = x := by simpa using hx
    refine ⟨_, ⟨rfl, hr.1, hr.2.1, hr.2.2⟩, fun j c hc => ?_⟩
    simp only [Nat.zero_mul, Nat.zero_add]
    rw [hb.cells.1 j]
    simpa using hc
  | i + 1, hx => simp at hx
theorem ruleSrc {ok ok' : Nat → Prop} {w : World} {ao : Option Addr} {cap : Nat} {xs : List Rule} (h : rowRep ruleS ok w ao cap xs) : srcRep ruleS ok' w ao xs := h.src.flat fun h => h
theorem takeSrc {ok ok' : Nat → Prop} {w : World} {ao : Option Addr} {cap : Nat} {xs : List Rule} (h : rowRep ruleS ok w ao cap xs) (k : Nat) : srcRep ruleS ok' w ao (xs.take k) := (h.take k).src.flat fun h => h
theorem dropSrc {ok ok' : Nat → Prop} {w : World} {b off cap : Nat} {xs : List Rule} (h : rowRep ruleS ok w (some ⟨b, off, none⟩) cap xs) {k : Nat} (hk : k ≤ xs.length) : srcRep ruleS ok' w (some ⟨b, off + k * 3, none⟩) (xs.drop k) := (h.drop k hk).src.flat fun h => h
end Go.St
namespace Go.Proofs.Ytcfcdembhjnjfaa
open Go.RowKit Go.St

set_option maxRecDepth 100000 in
set_option maxHeartbeats 16000000 in
theorem refAdd_c (l more : List Rule) (ok ok' : Nat → Prop) (ax ay : Option Addr) (cx cy : Nat) (w : World) (hx : rowRep ruleS ok w ax cx l) (hy : rowRep ruleS ok' w ay cy more) (hsm : l.length + more.length ≤ 10000000) :
    Calls Try.prog 21 #[.slice ax l.length cx, .slice ay more.length cy] w fun e w' => ∃ ao cap, e = .returned (.tuple #[.slice ao (addOf l more).1.length cap, .int .i64 (addOf l more).2]) ∧ rowRep ruleS (fun b => ok b ∨ w.heap.size ≤ b) w' ao cap (addOf l more).1 ∧ Below w.heap.size w w' := by
  obtain ⟨i0, hi, hz0, hz1, hz2⟩ := info_parts info_rules
  have HE1 : Hid ((tabWrong l).1 ≠ 0 → addOf l more = ([], (tabWrong l).1)) := fun h => by unfold addOf; rw [if_pos h]
  have HE2 : Hid ((tabWrong l).1 = 0 → ∀ out, out = more.foldl (fun s r => putR r s) l → (tabWrong out).1 ≠ 0 → addOf l more = ([], (tabWrong out).1)) := fun h out ho h2 => by
    rw [← out_put (tab_ok.1 h)] at ho; subst ho
    unfold addOf; rw [if_neg (fun h3 => h3 h)]; exact if_pos h2
  have HE3 : Hid ((tabWrong l).1 = 0 → ∀ out, out = more.foldl (fun s r => putR r s) l → (tabWrong out).1 = 0 → addOf l more = (out, 0)) := fun h out ho h2 => by
    rw [← out_put (tab_ok.1 h)] at ho; subst ho
    unfold addOf; rw [if_neg (fun h3 => h3 h)]; exact if_neg (fun h3 => h3 h2)
  generalize addOf l more = c at *
  obtain ⟨c1, c2⟩ := c
  dsimp only
  have hW1 := refTabWrong_c l ok ax cx w hx
  generalize tabWrong l = tw at *
  obtain ⟨tw1, tw2⟩ := tw
  dsimp only at *
  have HW1 := Lib.hid hW1
  clear hW1
  go_enter Try.func21, Try.ntmps21
  go_wp2_with fail
  refine HW1.out.mono ?_
  rintro e w1 ⟨rfl, hb1⟩
  have hz1' := hb1.size
  by_cases h1 : tw1 = 0
  case neg =>
    have h1' : (tw1 != 0) = true := by rw [bne_iff_ne]; exact h1
    obtain ⟨rfl, rfl⟩ : c1 = [] ∧ c2 = tw1 := by have := HE1.out h1; simpa using this
    clear HE1 HE2 HE3 h1
    go_wp2
    go_quiet (fail)
    go_wp2
    go_returns; exact ⟨none, 0, rfl, rowRep.nil _ _ _ _, by (repeat' (first | with_reducible exact Below.refl _ _ | with_reducible assumption | with_reducible refine Below.drew ?_ | with_reducible refine Below_drewN ?_ _ | with_reducible refine Below.alloc ?_ ?_ _ | with_reducible refine Below.setCell ?_ ?_ _ | omega | (simp; done) | (simp; omega)))⟩
  subst h1
  have hB1 : Below w.heap.size w (w1.alloc (.cells #[.int .i64 0, .int .i64 tw2] 32)) := by (repeat' (first | with_reducible exact Below.refl _ _ | with_reducible assumption | with_reducible refine Below.drew ?_ | with_reducible refine Below_drewN ?_ _ | with_reducible refine Below.alloc ?_ ?_ _ | with_reducible refine Below.setCell ?_ ?_ _ | omega | (simp; done) | (simp; omega)))
  have hst : Hid (l = (more.take 0).foldl (fun s r => putR r s) l) := rfl
  have hx1 : rowRep ruleS (fun b => ok b ∨ w.heap.size ≤ b) (w1.alloc (.cells #[.int .i64 0, .int .i64 tw2] 32)) ax cx l := (hx.below hB1).mono fun b _ hh => ⟨.inl hh, rfl⟩
  have H2 := Lib.hid (HE2.out (by first | trivial | rfl))
  have H3 := Lib.hid (HE3.out (by first | trivial | rfl))
  have HFN : Hid (∀ xs, xs = (more.take more.length).foldl (fun s r => putR r s) l → xs = more.foldl (fun s r => putR r s) l) := fun xs h => by rw [List.take_length] at h; exact h
  have HFS : Hid (∀ (j : Nat) (r : Rule) (xs : List Rule), more[j]? = some r → xs = (more.take j).foldl (fun s r => putR r s) l → ∀ ys, ys = putR r xs → ys = (more.take (j + 1)).foldl (fun s r => putR r s) l) := fun j r xs hr h ys hy => by rw [hy, h, foldl_step _ _ _ hr]
  have hmx := hy.len_le
  clear HE1 HE2 HE3 HW1
  go_wp2
  go_loopw [7, 9, 10, 11, 12, 24] (fun out _ _ _ _ idx wr => ∃ (j : Nat) (ys : List Rule) (ao : Option Addr) (cap : Nat), idx = .int .i64 j ∧ j ≤ more.length ∧ out = .slice ao ys.length cap ∧ ys.length ≤ l.length + j ∧ rowRep ruleS (fun b => ok b ∨ w.heap.size ≤ b) wr ao cap ys ∧ Hid (ys = (more.take j).foldl (fun s r => putR r s) l) ∧ Below w.heap.size w wr) (fun _ _ _ _ _ idx _ => more.length - (intOf idx).toNat)
  case atStart => exact ⟨0, l, ax, cx, rfl, Nat.zero_le _, rfl, by omega, hx1, hst, hB1⟩
  case round =>
    clear hst hx1 hB1 hb1 hz1'
    obtain ⟨j, ys, ao, cap, rfl, hj, rfl, hyl, hrow, hS, hb⟩ := hrel
    rename World => wo
    have hzo := hb.size
    by_cases hlt : j < more.length
    case neg =>
      obtain rfl : j = more.length := by omega
      have HF := Lib.hid (HFN.out ys hS.out)
      have hW2 := refTabWrong_c ys _ ao cap wo hrow
      have H22 := Lib.hid (H2.out ys HF.out)
      have H33 := Lib.hid (H3.out ys HF.out)
      generalize tabWrong ys = ww at *
      obtain ⟨ww1, ww2⟩ := ww
      dsimp only at *
      have HW2 := Lib.hid hW2
      clear hW2 hS HF H2 H3
      go_wp2_with fail
      refine HW2.out.mono ?_
      rintro e w6 ⟨rfl, hb6⟩
      have hB6 : Below w.heap.size w w6 := hb.trans (hb6.mono hzo)
      have hz6 := hB6.size
      by_cases h2 : ww1 = 0
      case neg =>
        have h2' : (ww1 != 0) = true := by rw [bne_iff_ne]; exact h2
        obtain ⟨rfl, rfl⟩ : c1 = [] ∧ c2 = ww1 := by have := H22.out h2; simpa using this
        clear H22 H33 h2
        go_wp2
        go_quiet (fail)
        go_wp2
        go_returns; exact ⟨none, 0, rfl, rowRep.nil _ _ _ _, by (repeat' (first | with_reducible exact Below.refl _ _ | with_reducible assumption | with_reducible refine Below.drew ?_ | with_reducible refine Below_drewN ?_ _ | with_reducible refine Below.alloc ?_ ?_ _ | with_reducible refine Below.setCell ?_ ?_ _ | omega | (simp; done) | (simp; omega)))⟩
      subst h2
      obtain ⟨rfl, rfl⟩ : c1 = ys ∧ c2 = 0 := by have := H33.out (by first | trivial | rfl); simpa using this
      have hrow6 := hrow.below hb6
      clear H22 H33
      go_wp2
      go_returns; exact ⟨ao, cap, rfl, hrow6.below (by (repeat' (first | with_reducible exact Below.refl _ _ | with_reducible assumption | with_reducible refine Below.drew ?_ | with_reducible refine Below_drewN ?_ _ | with_reducible refine Below.alloc ?_ ?_ _ | with_reducible refine Below.setCell ?_ ?_ _ | omega | (simp; done) | (simp; omega)))), by (repeat' (first | with_reducible exact Below.refl _ _ | with_reducible assumption | with_reducible refine Below.drew ?_ | with_reducible refine Below_drewN ?_ _ | with_reducible refine Below.alloc ?_ ?_ _ | with_reducible refine Below.setCell ?_ ?_ _ | omega | (simp; done) | (simp; omega)))⟩
    obtain ⟨r, hr⟩ : ∃ r, more[j]? = some r := ⟨_, List.getElem?_eq_getElem hlt⟩
    obtain ⟨mb, mo, rfl, hbl, hri, hce⟩ := hy.rules hr
    obtain ⟨e0, e1, e2⟩ := hce _ hb
    have HFJ := Lib.hid (HFS.out j r ys hr hS.out)
    have hgl := hrow.1
    have hcap := hrow.2.1
    have b0 : (0 : Int) ≤ (j : Int) := by omega
    have b1 : (j : Int) < (more.length : Int) := by omega
    clear hS hce hr
    go_wp2
    have hB1 : Below wo.heap.size wo (wo.alloc (.cells #[.int .i64 r.ver, .int .i64 r.flow, .int .i64 r.next] 28)) := by (repeat' (first | with_reducible exact Below.refl _ _ | with_reducible assumption | with_reducible refine Below.drew ?_ | with_reducible refine Below_drewN ?_ _ | with_reducible refine Below.alloc ?_ ?_ _ | with_reducible refine Below.setCell ?_ ?_ _ | omega | (simp; done) | (simp; omega)))
    have hrb : blockIs (wo.alloc (.cells #[.int .i64 r.ver, .int .i64 r.flow, .int .i64 r.next] 28)) wo.heap.size 28 #[.int .i64 r.ver, .int .i64 r.flow, .int .i64 r.next] := blockIs.new rfl
    have hrow1 := hrow.below hB1
    have hbw1 : Below w.heap.size w (wo.alloc (.cells #[.int .i64 r.ver, .int .i64 r.flow, .int .i64 r.next] 28)) := hb.trans (hB1.mono hzo)
    have hz1w : (wo.alloc (.cells #[.int .i64 r.ver, .int .i64 r.flow, .int .i64 r.next] 28)).heap.size = wo.heap.size + 1 := by simp
    generalize wo.alloc (.cells #[.int .i64 r.ver, .int .i64 r.flow, .int .i64 r.next] 28) = wp at *
    clear e0 e1 e2
    go_loopw [10] (fun kk wr => ∃ k : Nat, kk = .int .i64 k ∧ k ≤ ys.length ∧ Hid (∀ (i : Nat) (y : Rule), i < k → ys[i]? = some y → ruleLt r y = false) ∧ Below wp.heap.size wp wr) (fun kk _ => ys.length - (intOf kk).toNat)
    case atStart => exact ⟨0, rfl, Nat.zero_le _, fun i y h => absurd h (Nat.not_lt_zero _), Below.refl _ _⟩
    case round =>
      obtain ⟨k, rfl, hk, hA, hbk⟩ := hrel
      rename World => wk
      have hzk := hbk.size
      have k9 : IntKind.i64.wrap (k : Int) = k := IntWalk.i64_in _ (by simp only [maxLen] at hcap; omega)
      have hcap63 : cap ≤ 9223372036854775807 := by simp only [maxLen] at hcap; omega
      have hB9 : Hid (Below w.heap.size w wk) := hbw1.trans (hbk.mono (by omega))
      obtain ⟨F, hF⟩ : ∃ F : Bool, (F = true ↔ ∃ y, ys[k]? = some y ∧ ruleLt r y = false) := ⟨decide (∃ y, ys[k]? = some y ∧ ruleLt r y = false), by simp⟩
      have HF := Lib.hid hF
      clear hF
      go_wp2
      refine wp_join (fun a0 a' w' => ∃ v28 v29 v30 v31 v32 v33 v34 v35 v36 v37 v38 v39, a' = puts a0 [(28, v28), (29, v29), (30, v30), (31, v31), (32, v32), (33, v33), (34, v34), (35, v35), (36, v36), (37, v37), (38, v38), (39, v39), (40, .bool F)] ∧ Below wk.heap.size wk w') ?_ ?_
      · by_cases hkl : k < ys.length
        · obtain ⟨y, hy'⟩ : ∃ y, ys[k]? = some y := ⟨_, List.getElem?_eq_getElem hkl⟩
          obtain ⟨b, off, rfl, hbl2, _, hce2⟩ := hrow1.rules hy'
          obtain ⟨d0, d1, d2⟩ := hce2 _ hbk
          obtain ⟨r1, r2⟩ := (hrb.under hbk).cells
          have b3 : (k : Int) < (ys.length : Int) := by omega
          have b4 : (0 : Int) ≤ (k : Int) := by omega
          have hS0 : R2b b (off + k * 3) wo.heap.size 0 y r wk.drew := ⟨d0, d1, d2, r1 0, r1 1, r1 2⟩
          have HFE : Hid (F = !ruleLt r y) := by
            show _ = _
            cases hc : ruleLt r y
            · exact HF.out.2 ⟨y, hy', hc⟩
            · cases F with
              | false => rfl
              | true => obtain ⟨z, h1, h2⟩ := HF.out.1 rfl; rw [hy'] at h1; obtain rfl := Option.some.inj h1; rw [hc] at h2; cases h2
          clear hce2 hy'
          refine wp_region_to (R2b b (off + k * 3) wo.heap.size 0 y r) 99 (fun a0 a' w' => ∃ v28 v29 v30 v31 v32 v33 v34 v35 v36 v37 v38 v39, a' = puts a0 [(28, v28), (29, v29), (30, v30), (31, v31), (32, v32), (33, v33), (34, v34), (35, v35), (36, v36), (37, v37), (38, v38), (39, v39), (40, .bool (!ruleLt r y))] ∧ Below wk.heap.size wk w') (by kernel_rfl) ?_ ?_
          · intro Q' hR hQp
            have hb0 : Below wk.heap.size wk wk.drew := by (repeat' (first | with_reducible exact Below.refl _ _ | with_reducible assumption | with_reducible refine Below.drew ?_ | with_reducible refine Below_drewN ?_ _ | with_reducible refine Below.alloc ?_ ?_ _ | with_reducible refine Below.setCell ?_ ?_ _ | omega | (simp; done) | (simp; omega)))
            have hS : R2b b (off + k * 3) wo.heap.size 0 y r wk.drew := hS0
            generalize wk.drew = wa at *
            refine wpAnyK_take' (i := 0) _ rfl (by kernel_rfl) (fun _ _ _ h => hQp _ _ _ _ h) hS (yields_value (by kernel_rfl) (by intro w0 hw0; have hw1 := hw0; simp only [R2b] at hw1; first | (go_simp; done) | (go_simp; rfl))) ?_; simp only [Act.put, List.getElem_toArray, List.getElem_cons_succ, List.getElem_cons_zero, List.setIfInBounds_toArray, List.set_cons_succ, List.set_cons_zero]
            refine wpAnyK_take' (i := 1) _ rfl (by kernel_rfl) (fun _ _ _ h => hQp _ _ _ _ h) hS (yields_value (by kernel_rfl) (by intro w0 hw0; have hw1 := hw0; simp only [R2b] at hw1; first | (go_simp; done) | (go_simp; rfl))) ?_; simp only [Act.put, List.getElem_toArray, List.getElem_cons_succ, List.getElem_cons_zero, List.setIfInBounds_toArray, List.set_cons_succ, List.set_cons_zero]
            refine wpAnyK_take' (i := 2) _ rfl (by kernel_rfl) (fun _ _ _ h => hQp _ _ _ _ h) hS (yields_value (by kernel_rfl) (by intro w0 hw0; have hw1 := hw0; simp only [R2b] at hw1; first | (go_simp; done) | (go_simp; rfl))) ?_; simp only [Act.put, List.getElem_toArray, List.getElem_cons_succ, List.getElem_cons_zero, List.setIfInBounds_toArray, List.set_cons_succ, List.set_cons_zero]
            refine wpAnyK_take' (i := 3) _ rfl (by kernel_rfl) (fun _ _ _ h => hQp _ _ _ _ h) hS (yields_value (by kernel_rfl) (by intro w0 hw0; have hw1 := hw0; simp only [R2b] at hw1; first | (go_simp; done) | (go_simp; rfl))) ?_; simp only [Act.put, List.getElem_toArray, List.getElem_cons_succ, List.getElem_cons_zero, List.setIfInBounds_toArray, List.set_cons_succ, List.set_cons_zero]
            refine wpAnyK_take' (i := 4) _ rfl (by kernel_rfl) (fun _ _ _ h => hQp _ _ _ _ h) hS (yields_value (by kernel_rfl) (by intro w0 hw0; have hw1 := hw0; simp only [R2b] at hw1; first | (go_simp; done) | (go_simp; rfl))) ?_; simp only [Act.put, List.getElem_toArray, List.getElem_cons_succ, List.getElem_cons_zero, List.setIfInBounds_toArray, List.set_cons_succ, List.set_cons_zero]
            refine wpAnyK_take' (i := 5) _ rfl (by kernel_rfl) (fun _ _ _ h => hQp _ _ _ _ h) hS (yields_value (by kernel_rfl) (by intro w0 hw0; have hw1 := hw0; simp only [R2b] at hw1; first | (go_simp; done) | (go_simp; rfl))) ?_; simp only [Act.put, List.getElem_toArray, List.getElem_cons_succ, List.getElem_cons_zero, List.setIfInBounds_toArray, List.set_cons_succ, List.set_cons_zero]
            refine wpAnyK_take' (i := 6) _ rfl (by kernel_rfl) (fun _ _ _ h => hQp _ _ _ _ h) hS (yields_value (by kernel_rfl) (by intro w0 hw0; have hw1 := hw0; simp only [R2b] at hw1; first | (go_simp; done) | (go_simp; rfl))) ?_; simp only [Act.put, List.getElem_toArray, List.getElem_cons_succ, List.getElem_cons_zero, List.setIfInBounds_toArray, List.set_cons_succ, List.set_cons_zero]
            refine wpAnyK_take' (i := 7) _ rfl (by kernel_rfl) (fun _ _ _ h => hQp _ _ _ _ h) hS (yields_value (by kernel_rfl) (by intro w0 hw0; have hw1 := hw0; simp only [R2b] at hw1; first | (go_simp; done) | (go_simp; rfl))) ?_; simp only [Act.put, List.getElem_toArray, List.getElem_cons_succ, List.getElem_cons_zero, List.setIfInBounds_toArray, List.set_cons_succ, List.set_cons_zero]
            refine wpAnyK_take' (i := 8) _ rfl (by kernel_rfl) (fun _ _ _ h => hQp _ _ _ _ h) hS (yields_value (by kernel_rfl) (by intro w0 hw0; have hw1 := hw0; simp only [R2b] at hw1; first | (go_simp; done) | (go_simp; rfl))) ?_; simp only [Act.put, List.getElem_toArray, List.getElem_cons_succ, List.getElem_cons_zero, List.setIfInBounds_toArray, List.set_cons_succ, List.set_cons_zero]
            refine wpAnyK_take' (i := 9) _ rfl (by kernel_rfl) (fun _ _ _ h => hQp _ _ _ _ h) hS (yields_value (by kernel_rfl) (by intro w0 hw0; have hw1 := hw0; simp only [R2b] at hw1; first | (go_simp; done) | (go_simp; rfl))) ?_; simp only [Act.put, List.getElem_toArray, List.getElem_cons_succ, List.getElem_cons_zero, List.setIfInBounds_toArray, List.set_cons_succ, List.set_cons_zero]
            clear hS
            refine wpAnyK_call (i := 10) rfl (by kernel_rfl) (by kernel_rfl) fun K10 hK10 => ?_
            go_simp
            go_wp2_with fail
            refine (ahead_c r y wa).mono ?_
            rintro e wb ⟨rfl, hb3⟩
            go_wp2_with fail
            have hwz : wk.heap.size ≤ wa.heap.size := hb0.size
            have hb2 : Below wk.heap.size wk wb := hb0.trans (hb3.mono hwz)
            have hS : _ := hS0.under (by omega) (by omega) hb3
            refine hK10 _ _ (fun _ => hS) ?_
            clear hK10
            refine wpAnyK_take' (i := 11) _ rfl (by kernel_rfl) (fun _ _ _ h => hQp _ _ _ _ h) hS (yields_value (by kernel_rfl) (by intro w0 hw0; have hw1 := hw0; simp only [R2b] at hw1; first | (go_simp; done) | (go_simp; rfl))) ?_; simp only [Act.put, List.getElem_toArray, List.getElem_cons_succ, List.getElem_cons_zero, List.setIfInBounds_toArray, List.set_cons_succ, List.set_cons_zero]
            refine wpAnyK_take' (i := 12) _ rfl (by kernel_rfl) (fun _ _ _ h => hQp _ _ _ _ h) hS (yields_value (by kernel_rfl) (by intro w0 hw0; have hw1 := hw0; simp only [R2b] at hw1; first | (go_simp; done) | (go_simp; rfl))) ?_; simp only [Act.put, List.getElem_toArray, List.getElem_cons_succ, List.getElem_cons_zero, List.setIfInBounds_toArray, List.set_cons_succ, List.set_cons_zero]
            refine wpAnyK_done (by kernel_rfl) ?_ _
            refine hR _ _ ?_
            iterate 12 apply Exists.intro
            refine ⟨?_, hb2⟩
            simp only [puts, Act.put, List.setIfInBounds_toArray, List.set_cons_succ, List.set_cons_zero]
            rfl
          rintro a' w8 ⟨v28, v29, v30, v31, v32, v33, v34, v35, v36, v37, v38, v39, rfl, hb8⟩
          simp only [puts, Act.put, List.setIfInBounds_toArray, List.set_cons_succ, List.set_cons_zero]
          rw [← HFE.out]
          exact ⟨by first | trivial | rfl, v28, v29, v30, v31, v32, v33, v34, v35, v36, v37, v38, v39, rfl, hb8⟩
        · have b3 : ¬ (k : Int) < (ys.length : Int) := by omega
          obtain rfl : F = false := by
            cases F with
            | false => rfl
            | true => obtain ⟨z, h1, _⟩ := HF.out.1 rfl; have := (List.getElem?_eq_some_iff.1 h1).1; omega
          go_quiet (fail)
          refine ⟨rfl, ?_⟩
          iterate 12 apply Exists.intro
          refine ⟨?_, by (repeat' (first | with_reducible exact Below.refl _ _ | with_reducible assumption | with_reducible refine Below.drew ?_ | with_reducible refine Below_drewN ?_ _ | with_reducible refine Below.alloc ?_ ?_ _ | with_reducible refine Below.setCell ?_ ?_ _ | omega | (simp; done) | (simp; omega)))⟩
          simp only [puts, Act.put, List.setIfInBounds_toArray, List.set_cons_succ, List.set_cons_zero]
          rfl
      rintro a' w8 ⟨v28, v29, v30, v31, v32, v33, v34, v35, v36, v37, v38, v39, rfl, hb8⟩
      simp only [puts, Act.put, List.setIfInBounds_toArray, List.set_cons_succ, List.set_cons_zero]
      have hb9 : Below wp.heap.size wp w8 := hbk.trans (hb8.mono hzk)
      clear hb8
      cases F with
      | true =>
        obtain ⟨y, hy', hyl'⟩ := HF.out.1 rfl
        have hkl := (List.getElem?_eq_some_iff.1 hy').1
        have hA2 : Hid (∀ (i : Nat) (z : Rule), i < k + 1 → ys[i]? = some z → ruleLt r z = false) := fun i z h1 h2 => by
          by_cases e : i = k
          · subst e; rw [hy'] at h2; obtain rfl := Option.some.inj h2; exact hyl'
          · exact hA.out i z (by omega) h2
        clear hA hy' HF hyl'
        go_wp2
        case roundEnd =>
          go_roundw
          case rel => exact ⟨k + 1, by go_num, by omega, hA2, hb9⟩
          case measure => simp [intOf] <;> omega
      | false =>
      have hput := put_at (r := r) hk hA.out (fun y hy' => by
        cases hc : ruleLt r y
        · have := HF.out.2 ⟨y, hy', hc⟩; cases this
        · rfl)
      have HPUT := Lib.hid hput
      clear hput hA HF hbk hzk hB9
      have kw : IntKind.i64.wrap ((k : Int) - 1) = (k : Int) - 1 := IntWalk.i64_in _ (by omega)
      go_wp2
      go_loopw [11, 12] (fun ss jj wr => ∃ (m : Nat) (bb : Bool) (jz : Int), ss = .bool bb ∧ jj = .int .i64 jz ∧ jz = (m : Int) - 1 ∧ m ≤ k ∧ Hid ((bb = true → 1 ≤ k) ∧ (m < k → ys[k - 1]? = some r → bb = true)) ∧ Below wp.heap.size wp wr) (fun _ jj _ => ((intOf jj) + 1).toNat)
      case atStart => exact ⟨k, false, (k : Int) - 1, rfl, rfl, rfl, Nat.le_refl _, ⟨fun h => absurd h (by simp), fun h => absurd h (Nat.lt_irrefl _)⟩, hb9⟩
      case round =>
        clear hb9
        obtain ⟨m, bb, jz, rfl, rfl, hjz, hm, hI, hbk⟩ := hrel
        rename World => wk
        have hzk := hbk.size
        obtain ⟨G, hG⟩ : ∃ G : Bool, (G = true ↔ 0 < m ∧ ∃ y, ys[m - 1]? = some y ∧ ruleLt y r = false) := ⟨decide (0 < m ∧ ∃ y, ys[m - 1]? = some y ∧ ruleLt y r = false), by simp⟩
        have HG := Lib.hid hG
        clear hG
        go_wp2
        refine wp_join (fun a0 a' w' => ∃ v45 v46 v47 v48 v49 v50 v51 v52 v53 v54, a' = puts a0 [(45, v45), (46, v46), (47, v47), (48, v48), (49, v49), (50, v50), (51, v51), (52, v52), (53, v53), (54, v54), (55, .bool G)] ∧ Below wk.heap.size wk w') ?_ ?_
        · cases m with
          | zero =>
            obtain rfl : jz = -1 := by omega
            clear hjz
            obtain rfl : G = false := by
              cases G with
              | false => rfl
              | true => exact absurd (HG.out.1 rfl).1 (Nat.lt_irrefl _)
            go_quiet (fail)
            refine ⟨rfl, ?_⟩
            iterate 10 apply Exists.intro
            refine ⟨?_, by (repeat' (first | with_reducible exact Below.refl _ _ | with_reducible assumption | with_reducible refine Below.drew ?_ | with_reducible refine Below_drewN ?_ _ | with_reducible refine Below.alloc ?_ ?_ _ | with_reducible refine Below.setCell ?_ ?_ _ | omega | (simp; done) | (simp; omega)))⟩
            simp only [puts, Act.put, List.setIfInBounds_toArray, List.set_cons_succ, List.set_cons_zero]
            rfl
          | succ m =>
            obtain rfl : jz = (m : Int) := by omega
            clear hjz
            obtain ⟨y, hy'⟩ : ∃ y, ys[m]? = some y := ⟨_, List.getElem?_eq_getElem (by omega)⟩
            obtain ⟨b, off, rfl, hbl2, _, hce2⟩ := hrow1.rules hy'
            obtain ⟨d0, d1, d2⟩ := hce2 _ hbk
            obtain ⟨r1, r2⟩ := (hrb.under hbk).cells
            have k8 : IntKind.i64.wrap (m : Int) = m := IntWalk.i64_in _ (by omega)
            have b3 : (m : Int) < (ys.length : Int) := by omega
            have b4 : (m : Int) ≥ 0 := by omega
            have b5 : (0 : Int) ≤ (m : Int) := by omega
            have hS0 : R2b b (off + m * 3) wo.heap.size 0 y r wk.drew := ⟨d0, d1, d2, r1 0, r1 1, r1 2⟩
            have HGE : Hid (G = !ruleLt y r) := by
              show _ = _
              cases hc : ruleLt y r
              · exact HG.out.2 ⟨Nat.succ_pos _, y, hy', hc⟩
              · cases G with
                | false => rfl
                | true => obtain ⟨_, z, h1, h2⟩ := HG.out.1 rfl; rw [Nat.add_sub_cancel, hy'] at h1; obtain rfl := Option.some.inj h1; rw [hc] at h2; cases h2
            clear hce2 hy'
            refine wp_region_to (R2b b (off + m * 3) wo.heap.size 0 y r) 99 (fun a0 a' w' => ∃ v45 v46 v47 v48 v49 v50 v51 v52 v53 v54, a' = puts a0 [(45, v45), (46, v46), (47, v47), (48, v48), (49, v49), (50, v50), (51, v51), (52, v52), (53, v53), (54, v54), (55, .bool (!ruleLt y r))] ∧ Below wk.heap.size wk w') (by kernel_rfl) ?_ ?_
            · intro Q' hR hQp
              have hb0 : Below wk.heap.size wk wk.drew := by (repeat' (first | with_reducible exact Below.refl _ _ | with_reducible assumption | with_reducible refine Below.drew ?_ | with_reducible refine Below_drewN ?_ _ | with_reducible refine Below.alloc ?_ ?_ _ | with_reducible refine Below.setCell ?_ ?_ _ | omega | (simp; done) | (simp; omega)))
              have hS : R2b b (off + m * 3) wo.heap.size 0 y r wk.drew := hS0
              generalize wk.drew = wa at *
              refine wpAnyK_take' (i := 0) _ rfl (by kernel_rfl) (fun _ _ _ h => hQp _ _ _ _ h) hS (yields_value (by kernel_rfl) (by intro w0 hw0; have hw1 := hw0; simp only [R2b] at hw1; first | (go_simp; done) | (go_simp; rfl))) ?_; simp only [Act.put, List.getElem_toArray, List.getElem_cons_succ, List.getElem_cons_zero, List.setIfInBounds_toArray, List.set_cons_succ, List.set_cons_zero]
              refine wpAnyK_take' (i := 1) _ rfl (by kernel_rfl) (fun _ _ _ h => hQp _ _ _ _ h) hS (yields_value (by kernel_rfl) (by intro w0 hw0; have hw1 := hw0; simp only [R2b] at hw1; first | (go_simp; done) | (go_simp; rfl))) ?_; simp only [Act.put, List.getElem_toArray, List.getElem_cons_succ, List.getElem_cons_zero, List.setIfInBounds_toArray, List.set_cons_succ, List.set_cons_zero]
              refine wpAnyK_take' (i := 2) _ rfl (by kernel_rfl) (fun _ _ _ h => hQp _ _ _ _ h) hS (yields_value (by kernel_rfl) (by intro w0 hw0; have hw1 := hw0; simp only [R2b] at hw1; first | (go_simp; done) | (go_simp; rfl))) ?_; simp only [Act.put, List.getElem_toArray, List.getElem_cons_succ, List.getElem_cons_zero, List.setIfInBounds_toArray, List.set_cons_succ, List.set_cons_zero]
              refine wpAnyK_take' (i := 3) _ rfl (by kernel_rfl) (fun _ _ _ h => hQp _ _ _ _ h) hS (yields_value (by kernel_rfl) (by intro w0 hw0; have hw1 := hw0; simp only [R2b] at hw1; first | (go_simp; done) | (go_simp; rfl))) ?_; simp only [Act.put, List.getElem_toArray, List.getElem_cons_succ, List.getElem_cons_zero, List.setIfInBounds_toArray, List.set_cons_succ, List.set_cons_zero]
              refine wpAnyK_take' (i := 4) _ rfl (by kernel_rfl) (fun _ _ _ h => hQp _ _ _ _ h) hS (yields_value (by kernel_rfl) (by intro w0 hw0; have hw1 := hw0; simp only [R2b] at hw1; first | (go_simp; done) | (go_simp; rfl))) ?_; simp only [Act.put, List.getElem_toArray, List.getElem_cons_succ, List.getElem_cons_zero, List.setIfInBounds_toArray, List.set_cons_succ, List.set_cons_zero]
              refine wpAnyK_take' (i := 5) _ rfl (by kernel_rfl) (fun _ _ _ h => hQp _ _ _ _ h) hS (yields_value (by kernel_rfl) (by intro w0 hw0; have hw1 := hw0; simp only [R2b] at hw1; first | (go_simp; done) | (go_simp; rfl))) ?_; simp only [Act.put, List.getElem_toArray, List.getElem_cons_succ, List.getElem_cons_zero, List.setIfInBounds_toArray, List.set_cons_succ, List.set_cons_zero]
              refine wpAnyK_take' (i := 6) _ rfl (by kernel_rfl) (fun _ _ _ h => hQp _ _ _ _ h) hS (yields_value (by kernel_rfl) (by intro w0 hw0; have hw1 := hw0; simp only [R2b] at hw1; first | (go_simp; done) | (go_simp; rfl))) ?_; simp only [Act.put, List.getElem_toArray, List.getElem_cons_succ, List.getElem_cons_zero, List.setIfInBounds_toArray, List.set_cons_succ, List.set_cons_zero]
              refine wpAnyK_take' (i := 7) _ rfl (by kernel_rfl) (fun _ _ _ h => hQp _ _ _ _ h) hS (yields_value (by kernel_rfl) (by intro w0 hw0; have hw1 := hw0; simp only [R2b] at hw1; first | (go_simp; done) | (go_simp; rfl))) ?_; simp only [Act.put, List.getElem_toArray, List.getElem_cons_succ, List.getElem_cons_zero, List.setIfInBounds_toArray, List.set_cons_succ, List.set_cons_zero]
              clear hS
              refine wpAnyK_call (i := 8) rfl (by kernel_rfl) (by kernel_rfl) fun K8 hK8 => ?_
              go_simp
              go_wp2_with fail
              refine (ahead_c y r wa).mono ?_
              rintro e wb ⟨rfl, hb3⟩
              go_wp2_with fail
              have hwz : wk.heap.size ≤ wa.heap.size := hb0.size
              have hb2 : Below wk.heap.size wk wb := hb0.trans (hb3.mono hwz)
              have hS : _ := hS0.under (by omega) (by omega) hb3
              refine hK8 _ _ (fun _ => hS) ?_
              clear hK8
              refine wpAnyK_take' (i := 9) _ rfl (by kernel_rfl) (fun _ _ _ h => hQp _ _ _ _ h) hS (yields_value (by kernel_rfl) (by intro w0 hw0; have hw1 := hw0; simp only [R2b] at hw1; first | (go_simp; done) | (go_simp; rfl))) ?_; simp only [Act.put, List.getElem_toArray, List.getElem_cons_succ, List.getElem_cons_zero, List.setIfInBounds_toArray, List.set_cons_succ, List.set_cons_zero]
              refine wpAnyK_take' (i := 10) _ rfl (by kernel_rfl) (fun _ _ _ h => hQp _ _ _ _ h) hS (yields_value (by kernel_rfl) (by intro w0 hw0; have hw1 := hw0; simp only [R2b] at hw1; first | (go_simp; done) | (go_simp; rfl))) ?_; simp only [Act.put, List.getElem_toArray, List.getElem_cons_succ, List.getElem_cons_zero, List.setIfInBounds_toArray, List.set_cons_succ, List.set_cons_zero]
              refine wpAnyK_done (by kernel_rfl) ?_ _
              refine hR _ _ ?_
              iterate 10 apply Exists.intro
              refine ⟨?_, hb2⟩
              simp only [puts, Act.put, List.setIfInBounds_toArray, List.set_cons_succ, List.set_cons_zero]
              rfl
            rintro a' w8 ⟨v45, v46, v47, v48, v49, v50, v51, v52, v53, v54, rfl, hb8⟩
            simp only [puts, Act.put, List.setIfInBounds_toArray, List.set_cons_succ, List.set_cons_zero]
            rw [← HGE.out]
            exact ⟨by first | trivial | rfl, v45, v46, v47, v48, v49, v50, v51, v52, v53, v54, rfl, hb8⟩
        rintro a' w8 ⟨v45, v46, v47, v48, v49, v50, v51, v52, v53, v54, rfl, hb8⟩
        simp only [puts, Act.put, List.setIfInBounds_toArray, List.set_cons_succ, List.set_cons_zero]
        have hb9 : Below wp.heap.size wp w8 := hbk.trans (hb8.mono hzk)
        have hz8 := hb9.size
        clear hb8
        cases G with
        | true =>
          obtain ⟨hm0, y, hy', hyl'⟩ := HG.out.1 rfl
          obtain ⟨m', rfl⟩ : ∃ m', m = m' + 1 := ⟨m - 1, by omega⟩
          obtain rfl : jz = (m' : Int) := by omega
          clear hjz
          rw [Nat.add_sub_cancel] at hy'
          obtain ⟨b, off, rfl, hbl2, _, hce2⟩ := hrow1.rules hy'
          obtain ⟨d0, d1, d2⟩ := hce2 _ hb9
          obtain ⟨r1, r2⟩ := (hrb.under hb9).cells
          have k8 : IntKind.i64.wrap (m' : Int) = m' := IntWalk.i64_in _ (by omega)
          have b3 : (m' : Int) < (ys.length : Int) := by omega
          have b5 : (0 : Int) ≤ (m' : Int) := by omega
          have hq := eql_rule y r
          have hI2 : Hid (((bb || decide (y = r)) = true → 1 ≤ k) ∧ (m' < k → ys[k - 1]? = some r → (bb || decide (y = r)) = true)) := ⟨fun _ => by omega, fun h1 h2 => by
            by_cases e : m' + 1 < k
            · rw [hI.out.2 e h2]; rfl
            · obtain rfl : k = m' + 1 := by omega
              rw [Nat.add_sub_cancel, hy'] at h2
              obtain rfl := Option.some.inj h2
              simp⟩
          have hl3 := (hrb.under hb9).lt
          clear hI HG hce2 hy' hyl'
          cases bb with
          | true =>
            go_wp2
            go_quiet (fail)
            go_wp2
            case roundEnd =>
              go_roundw
              case rel => exact ⟨m', true, (m' : Int) - 1, rfl, by go_num, rfl, by omega, hI2, by (repeat' (first | with_reducible exact Below.refl _ _ | with_reducible assumption | with_reducible refine Below.drew ?_ | with_reducible refine Below_drewN ?_ _ | with_reducible refine Below.alloc ?_ ?_ _ | with_reducible refine Below.setCell ?_ ?_ _ | omega | (simp; done) | (simp; omega)))⟩
              case measure => simp [intOf] <;> omega
          | false =>
            generalize decide (y = r) = yr at *
            go_wp2
            go_quiet (fail)
            go_wp2
            case roundEnd =>
              go_roundw
              case rel => exact ⟨m', yr, (m' : Int) - 1, by simp, by go_num, rfl, by omega, by simpa using hI2, by (repeat' (first | with_reducible exact Below.refl _ _ | with_reducible assumption | with_reducible refine Below.drew ?_ | with_reducible refine Below_drewN ?_ _ | with_reducible refine Below.alloc ?_ ?_ _ | with_reducible refine Below.setCell ?_ ?_ _ | omega | (simp; done) | (simp; omega)))⟩
              case measure => simp [intOf] <;> omega
        | false =>
        clear hjz
        have hSame : Hid ((bb = true → 1 ≤ k) ∧ (1 ≤ k → ys[k - 1]? = some r → bb = true)) := ⟨hI.out.1, fun h1 h2 => by
          by_cases e : m < k
          · exact hI.out.2 e h2
          · obtain rfl : m = k := by omega
            have := HG.out.2 ⟨h1, r, h2, ruleLt_weak.irr r⟩
            cases this⟩
        obtain ⟨H, hH⟩ : ∃ H : Bool, (H = true ↔ 0 < k ∧ ys[k - 1]? = some r) := ⟨decide (0 < k ∧ ys[k - 1]? = some r), by simp⟩
        have HH := Lib.hid hH
        clear hH HG hI hbk hzk
        go_wp2
        refine wp_join (fun a0 a' w' => ∃ v67 v68 v69 v70 v71 v72 v73 v74 v75, a' = puts a0 [(67, v67), (68, v68), (69, v69), (70, v70), (71, v71), (72, v72), (73, v73), (74, v74), (75, v75), (76, .bool H)] ∧ Below w8.heap.size w8 w') ?_ ?_
        · cases bb with
          | false =>
            obtain rfl : H = false := by
              cases H with
              | false => rfl
              | true => obtain ⟨h1, h2⟩ := HH.out.1 rfl; have := hSame.out.2 h1 h2; cases this
            go_quiet (fail)
            refine ⟨rfl, ?_⟩
            iterate 9 apply Exists.intro
            refine ⟨?_, by (repeat' (first | with_reducible exact Below.refl _ _ | with_reducible assumption | with_reducible refine Below.drew ?_ | with_reducible refine Below_drewN ?_ _ | with_reducible refine Below.alloc ?_ ?_ _ | with_reducible refine Below.setCell ?_ ?_ _ | omega | (simp; done) | (simp; omega)))⟩
            simp only [puts, Act.put, List.setIfInBounds_toArray, List.set_cons_succ, List.set_cons_zero]
            rfl
          | true =>
            have hk1 := hSame.out.1 rfl
            obtain ⟨kp, rfl⟩ : ∃ kp, k = kp + 1 := ⟨k - 1, by omega⟩
            obtain ⟨y, hy'⟩ : ∃ y, ys[kp]? = some y := ⟨_, List.getElem?_eq_getElem (by omega)⟩
            obtain ⟨b, off, rfl, hbl2, _, hce2⟩ := hrow1.rules hy'
            obtain ⟨d0, d1, d2⟩ := hce2 _ hb9
            obtain ⟨r1, r2⟩ := (hrb.under hb9).cells
            have k8 : IntKind.i64.wrap (((kp + 1 : Nat) : Int) - 1) = (kp : Int) := by rw [IntWalk.i64_in _ (by omega)]; omega
            have k7 : IntKind.i64.wrap (kp : Int) = kp := IntWalk.i64_in _ (by omega)
            have b3 : (kp : Int) < (ys.length : Int) := by omega
            have b5 : (0 : Int) ≤ (kp : Int) := by omega
            have hl3 := (hrb.under hb9).lt
            have hq := eql_rule y r
            have HHE : Hid (decide (y = r) = H) := by
              show _ = _
              by_cases e : y = r
              · rw [decide_eq_true e]; exact (HH.out.2 ⟨Nat.succ_pos _, by rw [Nat.add_sub_cancel, hy', e]⟩).symm
              · rw [decide_eq_false e]
                cases H with
                | false => rfl
                | true => obtain ⟨_, h2⟩ := HH.out.1 rfl; rw [Nat.add_sub_cancel, hy'] at h2; exact absurd (Option.some.inj h2) e
            rw [HHE.out] at hq
            clear hce2 hy'
            go_quiet (fail)
            refine ⟨rfl, ?_⟩
            iterate 9 apply Exists.intro
            refine ⟨?_, by (repeat' (first | with_reducible exact Below.refl _ _ | with_reducible assumption | with_reducible refine Below.drew ?_ | with_reducible refine Below_drewN ?_ _ | with_reducible refine Below.alloc ?_ ?_ _ | with_reducible refine Below.setCell ?_ ?_ _ | omega | (simp; done) | (simp; omega)))⟩
            simp only [puts, Act.put, List.setIfInBounds_toArray, List.set_cons_succ, List.set_cons_zero]
            rfl
        rintro a' w9 ⟨v67, v68, v69, v70, v71, v72, v73, v74, v75, rfl, hb8⟩
        simp only [puts, Act.put, List.setIfInBounds_toArray, List.set_cons_succ, List.set_cons_zero]
        have hb10 : Below wp.heap.size wp w9 := hb9.trans (hb8.mono hz8)
        have hB10 : Below w.heap.size w w9 := hbw1.trans (hb10.mono (by omega))
        have hz10 := hb10.size
        have hrow9 := hrow1.below hb10
        have hrb9 := hrb.under hb10
        clear hb8 hb9 hz8 hSame
        cases H with
        | true =>
          have hys : Hid (ys = (more.take (j + 1)).foldl (fun s r => putR r s) l) := HFJ.out ys (by rw [HPUT.out, if_pos (HH.out.1 rfl)])
          clear HFJ HPUT HH
          go_wp2
          case roundEnd =>
            go_roundw
            case rel => exact ⟨j + 1, ys, ao, cap, by go_num, by omega, rfl, by omega, hrow9, hys, hB10⟩
            case measure => simp [intOf] <;> omega
        | false =>
        have hys : Hid (ys.take k ++ r :: ys.drop k = (more.take (j + 1)).foldl (fun s r => putR r s) l) := HFJ.out _ (by rw [HPUT.out, if_neg (fun h => by have := HH.out.2 h; cases this)])
        clear HFJ HPUT HH
        obtain ⟨rb1, rb2⟩ := hrb9.cells
        have hrl := hrb9.lt
        have hlk : (ys.take k).length = k := by simp; omega
        have hcap63 : cap ≤ 9223372036854775807 := by simp only [maxLen] at hcap; omega
        have hcap1 : (k : Int) ≤ (cap : Int) := by omega
        have hcap2 : (k : Int) ≤ (ys.length : Int) := by omega
        have hSw : SA wo.heap.size r w9 := ⟨rb1 0, rb1 1, rb1 2⟩
        have hyll : ys.length ≤ 10000000 := by omega
        go_wp2
        have hS0 : SA wo.heap.size r w9.drew := hSw
        have hlz : (ys.take k ++ r :: ys.drop k).length = ys.length + 1 := by simp; omega
        by_cases hkl : k < ys.length
        · obtain ⟨b, off, rfl, hbl2, _, hce2⟩ := hrow9.rules (List.getElem?_eq_getElem hkl)
          have hcx : ¬ (cap - k = 0) := by omega
          clear hce2
          refine wp_region_to (SA wo.heap.size r) 99 (fun a0 a' w' => ∃ v7 v77 v78 v79 v80 v81 v82 v83 v84 v85 v86 v87 v88, a' = puts a0 [(7, v7), (77, v77), (78, v78), (79, v79), (80, v80), (81, v81), (82, v82), (83, v83), (84, v84), (85, v85), (86, v86), (87, v87), (88, v88)] ∧ ∃ ao' cap' nn, v7 = .slice ao' nn cap' ∧ nn = ys.length + 1 ∧ rowRep ruleS (fun b => ok b ∨ w.heap.size ≤ b) w' ao' cap' (ys.take k ++ r :: ys.drop k) ∧ Below w9.heap.size w9 w') (by kernel_rfl) ?_ ?_
          · intro Q' hR hQp
            have hb0 : Below w9.heap.size w9 w9.drew := by (repeat' (first | with_reducible exact Below.refl _ _ | with_reducible assumption | with_reducible refine Below.drew ?_ | with_reducible refine Below_drewN ?_ _ | with_reducible refine Below.alloc ?_ ?_ _ | with_reducible refine Below.setCell ?_ ?_ _ | omega | (simp; done) | (simp; omega)))
            have hS : SA wo.heap.size r w9.drew := hS0
            generalize w9.drew = wa at *
            have hc0 : Below wa.heap.size wa wa := Below.refl _ _
            refine wpAnyK_take' (i := 1) _ rfl (by kernel_rfl) (fun _ _ _ h => hQp _ _ _ _ h) hS (yields_value (by kernel_rfl) (by intro w0 hw0; have hw1 := hw0; simp only [SA] at hw1; first | (go_simp; done) | (go_simp; rfl))) ?_; simp only [Act.put, List.getElem_toArray, List.getElem_cons_succ, List.getElem_cons_zero, List.setIfInBounds_toArray, List.set_cons_succ, List.set_cons_zero]
            refine wpAnyK_take' (i := 2) _ rfl (by kernel_rfl) (fun _ _ _ h => hQp _ _ _ _ h) hS (yields_value (by kernel_rfl) (by intro w0 hw0; have hw1 := hw0; simp only [SA] at hw1; first | (go_simp; done) | (go_simp; rfl))) ?_; simp only [Act.put, List.getElem_toArray, List.getElem_cons_succ, List.getElem_cons_zero, List.setIfInBounds_toArray, List.set_cons_succ, List.set_cons_zero]
            refine wpAnyK_take' (i := 3) _ rfl (by kernel_rfl) (fun _ _ _ h => hQp _ _ _ _ h) hS (yields_value (by kernel_rfl) (by intro w0 hw0; have hw1 := hw0; simp only [SA] at hw1; first | (go_simp; done) | (go_simp; rfl))) ?_; simp only [Act.put, List.getElem_toArray, List.getElem_cons_succ, List.getElem_cons_zero, List.setIfInBounds_toArray, List.set_cons_succ, List.set_cons_zero]
            refine wpAnyK_take' (i := 5) _ rfl (by kernel_rfl) (fun _ _ _ h => hQp _ _ _ _ h) hS (yields_value (by kernel_rfl) (by intro w0 hw0; have hw1 := hw0; simp only [SA] at hw1; first | (go_simp; done) | (go_simp; rfl))) ?_; simp only [Act.put, List.getElem_toArray, List.getElem_cons_succ, List.getElem_cons_zero, List.setIfInBounds_toArray, List.set_cons_succ, List.set_cons_zero]
            refine wpAnyK_take' (i := 8) _ rfl (by kernel_rfl) (fun _ _ _ h => hQp _ _ _ _ h) hS (yields_value (by kernel_rfl) (by intro w0 hw0; have hw1 := hw0; simp only [SA] at hw1; first | (go_simp; done) | (go_simp; rfl))) ?_; simp only [Act.put, List.getElem_toArray, List.getElem_cons_succ, List.getElem_cons_zero, List.setIfInBounds_toArray, List.set_cons_succ, List.set_cons_zero]
            refine wpAnyK_take' (i := 9) _ rfl (by kernel_rfl) (fun _ _ _ h => hQp _ _ _ _ h) hS (yields_value (by kernel_rfl) (by intro w0 hw0; have hw1 := hw0; simp only [SA] at hw1; first | (go_simp; done) | (go_simp; rfl))) ?_; simp only [Act.put, List.getElem_toArray, List.getElem_cons_succ, List.getElem_cons_zero, List.setIfInBounds_toArray, List.set_cons_succ, List.set_cons_zero]
            refine wpAnyK_take' (i := 10) _ rfl (by kernel_rfl) (fun _ _ _ h => hQp _ _ _ _ h) hS (yields_value (by kernel_rfl) (by intro w0 hw0; have hw1 := hw0; simp only [SA] at hw1; first | (go_simp; done) | (go_simp; rfl))) ?_; simp only [Act.put, List.getElem_toArray, List.getElem_cons_succ, List.getElem_cons_zero, List.setIfInBounds_toArray, List.set_cons_succ, List.set_cons_zero]
            refine wpAnyK_two (i := 0) (j := 6) rfl rfl (by kernel_rfl) (by kernel_rfl) (by kernel_rfl) (fun K0 hK0 => ?_) (fun K6 hK6 => ?_)
            · skip
              go_simp
              go_wp2_with fail
              have ho0 : ownR ruleS 28 (fun _ => False) wa.heap.size (wa.alloc (.cells #[] 28)) (some ⟨wa.heap.size, 0, none⟩) 0 0 [] := ownR.lit (cs := []) rfl rfl hc0.size (by decide) (by simp) (fun _ h => h.elim)
              have hc1 : Below wa.heap.size wa (wa.alloc (.cells #[] 28)) := hc0.trans (by have := hc0.size; (repeat' (first | with_reducible exact Below.refl _ _ | with_reducible assumption | with_reducible refine Below.drew ?_ | with_reducible refine Below_drewN ?_ _ | with_reducible refine Below.alloc ?_ ?_ _ | with_reducible refine Below.setCell ?_ ?_ _ | omega | (simp; done) | (simp; omega))))
              have hS : SA wo.heap.size r (wa.alloc (.cells #[] 28)) := hSw.under hrl (hb0.trans (hc1.mono hb0.size))
              refine hK0 _ _ (fun _ => hS) ?_
              clear hK0
              generalize (wa.alloc (.cells #[] 28)) = x1 at *
              refine wpAnyK_two (i := 4) (j := 6) rfl rfl (by kernel_rfl) (by kernel_rfl) (by kernel_rfl) (fun K4 hK4 => ?_) (fun K6 hK6 => ?_)
              · skip
                refine wp_appR (sh := ruleS) (n := 0) (m := k) (.tmp 77) (.tmp 80) 22 (by rfl) 28 i0 (.agg #[.int .i64 0, .int .i64 0, .int .i64 0]) 24 Try.underlying22 hi hz0 hz1 hz2 rfl (by decide) (ok := fun _ => False) (base := wa.heap.size) (by rfl) ho0 (by rfl) hlk (takeSrc (hrow9.below (hb0.trans (hc1.mono hb0.size))) k) (by simp only [maxLen]; omega) (by omega) hc1.size ?_
                intro ao4 cap4 x2 ho4 hg4 hlie4
                have hc2 : Below wa.heap.size wa x2 := hc1.trans (grown_below (B := wa.heap.size) hg4 (fun k hk => (ho0.lt k hk).1) hc1.size)
                simp only [Nat.zero_add, List.nil_append] at ho4
                simp only [Nat.zero_add, Act.put, List.getElem_toArray, List.getElem_cons_succ, List.getElem_cons_zero, List.setIfInBounds_toArray, List.set_cons_succ, List.set_cons_zero]
                have hS : SA wo.heap.size r x2 := hSw.under hrl (hb0.trans (hc2.mono hb0.size))
                refine hK4 _ _ (fun _ => hS) ?_
                clear hK4
                clear hS
                refine wpAnyK_call (i := 6) rfl (by kernel_rfl) (by kernel_rfl) fun K6 hK6 => ?_
                go_simp
                go_wp2_with fail
                have hsb : blockIs (x2.alloc (.cells #[.int .i64 r.ver, .int .i64 r.flow, .int .i64 r.next] 28)) x2.heap.size 28 #[.int .i64 r.ver, .int .i64 r.flow, .int .i64 r.next] := blockIs.new rfl
                have hc3 : Below wa.heap.size wa (x2.alloc (.cells #[.int .i64 r.ver, .int .i64 r.flow, .int .i64 r.next] 28)) := hc2.trans (by have := hc2.size; (repeat' (first | with_reducible exact Below.refl _ _ | with_reducible assumption | with_reducible refine Below.drew ?_ | with_reducible refine Below_drewN ?_ _ | with_reducible refine Below.alloc ?_ ?_ _ | with_reducible refine Below.setCell ?_ ?_ _ | omega | (simp; done) | (simp; omega))))
                have hsl : x2.heap.size < (x2.alloc (.cells #[.int .i64 r.ver, .int .i64 r.flow, .int .i64 r.next] 28)).heap.size := by simp
                have hne : some x2.heap.size ≠ blk ao4 := fun e => by have := (ho4.lt _ e.symm).2; omega
                have ho4 := ho4.alloc (.cells #[.int .i64 r.ver, .int .i64 r.flow, .int .i64 r.next] 28)
                have hS : SA wo.heap.size r (x2.alloc (.cells #[.int .i64 r.ver, .int .i64 r.flow, .int .i64 r.next] 28)) := hSw.under hrl (hb0.trans (hc3.mono hb0.size))
                refine hK6 _ _ (fun _ => hS) ?_
                clear hK6
                generalize (x2.alloc (.cells #[.int .i64 r.ver, .int .i64 r.flow, .int .i64 r.next] 28)) = x3 at *
                clear hS
                refine wpAnyK_call (i := 7) rfl (by kernel_rfl) (by kernel_rfl) fun K7 hK7 => ?_
                refine wp_appR (sh := ruleS) (n := k) (m := 1) (.tmp 81) (.tmp 83) 22 (by rfl) 28 i0 (.agg #[.int .i64 0, .int .i64 0, .int .i64 0]) 24 Try.underlying22 hi hz0 hz1 hz2 rfl (by decide) (ok := fun _ => False) (base := wa.heap.size) (by rfl) ho4 (by rfl) rfl (srcRep.ruleB r hsb hri) (by simp only [maxLen]; omega) (by omega) hc3.size ?_
                intro ao7 cap7 x4 ho7 hg7 hlie7
                have hc4 : Below wa.heap.size wa x4 := hc3.trans (grown_below (B := wa.heap.size) hg7 (fun k hk => (ho4.lt k hk).1) hc3.size)
                simp only [Nat.zero_add, Act.put, List.getElem_toArray, List.getElem_cons_succ, List.getElem_cons_zero, List.setIfInBounds_toArray, List.set_cons_succ, List.set_cons_zero]
                have hS : SA wo.heap.size r x4 := hSw.under hrl (hb0.trans (hc4.mono hb0.size))
                refine hK7 _ _ (fun _ => hS) ?_
                clear hK7
                clear hS
                refine wpAnyK_call (i := 11) rfl (by kernel_rfl) (by kernel_rfl) fun K11 hK11 => ?_
                refine wp_appR (sh := ruleS) (n := k + 1) (m := ys.length - k) (.tmp 84) (.tmp 87) 22 (by rfl) 28 i0 (.agg #[.int .i64 0, .int .i64 0, .int .i64 0]) 24 Try.underlying22 hi hz0 hz1 hz2 rfl (by decide) (ok := fun _ => False) (base := wa.heap.size) (by rfl) ho7 (by rfl) (by simp) (dropSrc (hrow9.below (hb0.trans (hc4.mono hb0.size))) hk) (by simp only [maxLen]; omega) (by omega) hc4.size ?_
                intro ao11 cap11 x5 ho11 hg11 hlie11
                have hc5 : Below wa.heap.size wa x5 := hc4.trans (grown_below (B := wa.heap.size) hg11 (fun k hk => (ho7.lt k hk).1) hc4.size)
                simp only [Nat.zero_add, Act.put, List.getElem_toArray, List.getElem_cons_succ, List.getElem_cons_zero, List.setIfInBounds_toArray, List.set_cons_succ, List.set_cons_zero]
                have hS : SA wo.heap.size r x5 := hSw.under hrl (hb0.trans (hc5.mono hb0.size))
                refine hK11 _ _ (fun _ => hS) ?_
                clear hK11
                refine wpAnyK_take' (i := 12) _ rfl (by kernel_rfl) (fun _ _ _ h => hQp _ _ _ _ h) hS (yields_value (by kernel_rfl) (by intro w0 hw0; have hw1 := hw0; simp only [SA] at hw1; first | (go_simp; done) | (go_simp; rfl))) ?_; simp only [Act.put, List.getElem_toArray, List.getElem_cons_succ, List.getElem_cons_zero, List.setIfInBounds_toArray, List.set_cons_succ, List.set_cons_zero]
                refine wpAnyK_done (by kernel_rfl) ?_ _
                refine hR _ _ ?_
                iterate 13 apply Exists.intro
                refine ⟨?_, ⟨ao11, cap11, k + 1 + (ys.length - k), rfl, by omega, by have h9 := ho11.row (ok' := fun b => ok b ∨ w.heap.size ≤ b) (fun _ h => h.elim) (fun kk hkk => .inr (by have h5 := (ho11.lt kk hkk).1; have h6 := hb0.size; have h7 := hB10.size; omega)); simpa using h9, hb0.trans (hc5.mono hb0.size)⟩⟩
                simp only [puts, Act.put, List.setIfInBounds_toArray, List.set_cons_succ, List.set_cons_zero]
                rfl
              · skip
                go_simp
                go_wp2_with fail
                have hsb : blockIs (x1.alloc (.cells #[.int .i64 r.ver, .int .i64 r.flow, .int .i64 r.next] 28)) x1.heap.size 28 #[.int .i64 r.ver, .int .i64 r.flow, .int .i64 r.next] := blockIs.new rfl
                have hc2 : Below wa.heap.size wa (x1.alloc (.cells #[.int .i64 r.ver, .int .i64 r.flow, .int .i64 r.next] 28)) := hc1.trans (by have := hc1.size; (repeat' (first | with_reducible exact Below.refl _ _ | with_reducible assumption | with_reducible refine Below.drew ?_ | with_reducible refine Below_drewN ?_ _ | with_reducible refine Below.alloc ?_ ?_ _ | with_reducible refine Below.setCell ?_ ?_ _ | omega | (simp; done) | (simp; omega))))
                have hsl : x1.heap.size < (x1.alloc (.cells #[.int .i64 r.ver, .int .i64 r.flow, .int .i64 r.next] 28)).heap.size := by simp
                have hne : some x1.heap.size ≠ blk (some (⟨wa.heap.size, 0, none⟩ : Addr)) := fun e => by have := (ho0.lt _ e.symm).2; omega
                have ho0 := ho0.alloc (.cells #[.int .i64 r.ver, .int .i64 r.flow, .int .i64 r.next] 28)
                have hS : SA wo.heap.size r (x1.alloc (.cells #[.int .i64 r.ver, .int .i64 r.flow, .int .i64 r.next] 28)) := hSw.under hrl (hb0.trans (hc2.mono hb0.size))
                refine hK6 _ _ (fun _ => hS) ?_
                clear hK6
                generalize (x1.alloc (.cells #[.int .i64 r.ver, .int .i64 r.flow, .int .i64 r.next] 28)) = x2 at *
                clear hS
                refine wpAnyK_call (i := 4) rfl (by kernel_rfl) (by kernel_rfl) fun K4 hK4 => ?_
                refine wp_appR (sh := ruleS) (n := 0) (m := k) (.tmp 77) (.tmp 80) 22 (by rfl) 28 i0 (.agg #[.int .i64 0, .int .i64 0, .int .i64 0]) 24 Try.underlying22 hi hz0 hz1 hz2 rfl (by decide) (ok := fun _ => False) (base := wa.heap.size) (by rfl) ho0 (by rfl) hlk (takeSrc (hrow9.below (hb0.trans (hc2.mono hb0.size))) k) (by simp only [maxLen]; omega) (by omega) hc2.size ?_
                intro ao4 cap4 x3 ho4 hg4 hlie4
                have hc3 : Below wa.heap.size wa x3 := hc2.trans (grown_below (B := wa.heap.size) hg4 (fun k hk => (ho0.lt k hk).1) hc2.size)
                simp only [Nat.zero_add, List.nil_append] at ho4
                simp only [Nat.zero_add, Act.put, List.getElem_toArray, List.getElem_cons_succ, List.getElem_cons_zero, List.setIfInBounds_toArray, List.set_cons_succ, List.set_cons_zero]
                have hsb := hsb.grown hg4 hne
                have hne : some x1.heap.size ≠ blk ao4 := by
                  rcases hlie4 with h | h
                  · rw [h]; exact hne
                  · rw [h]; intro h2; have h3 : x1.heap.size = x2.heap.size := by simpa using h2
                    omega
                have hS : SA wo.heap.size r x3 := hSw.under hrl (hb0.trans (hc3.mono hb0.size))
                refine hK4 _ _ (fun _ => hS) ?_
                clear hK4
                clear hS
                refine wpAnyK_call (i := 7) rfl (by kernel_rfl) (by kernel_rfl) fun K7 hK7 => ?_
                refine wp_appR (sh := ruleS) (n := k) (m := 1) (.tmp 81) (.tmp 83) 22 (by rfl) 28 i0 (.agg #[.int .i64 0, .int .i64 0, .int .i64 0]) 24 Try.underlying22 hi hz0 hz1 hz2 rfl (by decide) (ok := fun _ => False) (base := wa.heap.size) (by rfl) ho4 (by rfl) rfl (srcRep.ruleB r hsb hri) (by simp only [maxLen]; omega) (by omega) hc3.size ?_
                intro ao7 cap7 x4 ho7 hg7 hlie7
                have hc4 : Below wa.heap.size wa x4 := hc3.trans (grown_below (B := wa.heap.size) hg7 (fun k hk => (ho4.lt k hk).1) hc3.size)
                simp only [Nat.zero_add, Act.put, List.getElem_toArray, List.getElem_cons_succ, List.getElem_cons_zero, List.setIfInBounds_toArray, List.set_cons_succ, List.set_cons_zero]
                have hS : SA wo.heap.size r x4 := hSw.under hrl (hb0.trans (hc4.mono hb0.size))
                refine hK7 _ _ (fun _ => hS) ?_
                clear hK7
                clear hS
                refine wpAnyK_call (i := 11) rfl (by kernel_rfl) (by kernel_rfl) fun K11 hK11 => ?_
                refine wp_appR (sh := ruleS) (n := k + 1) (m := ys.length - k) (.tmp 84) (.tmp 87) 22 (by rfl) 28 i0 (.agg #[.int .i64 0, .int .i64 0, .int .i64 0]) 24 Try.underlying22 hi hz0 hz1 hz2 rfl (by decide) (ok := fun _ => False) (base := wa.heap.size) (by rfl) ho7 (by rfl) (by simp) (dropSrc (hrow9.below (hb0.trans (hc4.mono hb0.size))) hk) (by simp only [maxLen]; omega) (by omega) hc4.size ?_
                intro ao11 cap11 x5 ho11 hg11 hlie11
                have hc5 : Below wa.heap.size wa x5 := hc4.trans (grown_below (B := wa.heap.size) hg11 (fun k hk => (ho7.lt k hk).1) hc4.size)
                simp only [Nat.zero_add, Act.put, List.getElem_toArray, List.getElem_cons_succ, List.getElem_cons_zero, List.setIfInBounds_toArray, List.set_cons_succ, List.set_cons_zero]
                have hS : SA wo.heap.size r x5 := hSw.under hrl (hb0.trans (hc5.mono hb0.size))
                refine hK11 _ _ (fun _ => hS) ?_
                clear hK11
                refine wpAnyK_take' (i := 12) _ rfl (by kernel_rfl) (fun _ _ _ h => hQp _ _ _ _ h) hS (yields_value (by kernel_rfl) (by intro w0 hw0; have hw1 := hw0; simp only [SA] at hw1; first | (go_simp; done) | (go_simp; rfl))) ?_; simp only [Act.put, List.getElem_toArray, List.getElem_cons_succ, List.getElem_cons_zero, List.setIfInBounds_toArray, List.set_cons_succ, List.set_cons_zero]
                refine wpAnyK_done (by kernel_rfl) ?_ _
                refine hR _ _ ?_
                iterate 13 apply Exists.intro
                refine ⟨?_, ⟨ao11, cap11, k + 1 + (ys.length - k), rfl, by omega, by have h9 := ho11.row (ok' := fun b => ok b ∨ w.heap.size ≤ b) (fun _ h => h.elim) (fun kk hkk => .inr (by have h5 := (ho11.lt kk hkk).1; have h6 := hb0.size; have h7 := hB10.size; omega)); simpa using h9, hb0.trans (hc5.mono hb0.size)⟩⟩
                simp only [puts, Act.put, List.setIfInBounds_toArray, List.set_cons_succ, List.set_cons_zero]
                rfl
            · skip
              go_simp
              go_wp2_with fail
              have hsb : blockIs (wa.alloc (.cells #[.int .i64 r.ver, .int .i64 r.flow, .int .i64 r.next] 28)) wa.heap.size 28 #[.int .i64 r.ver, .int .i64 r.flow, .int .i64 r.next] := blockIs.new rfl
              have hc1 : Below wa.heap.size wa (wa.alloc (.cells #[.int .i64 r.ver, .int .i64 r.flow, .int .i64 r.next] 28)) := hc0.trans (by have := hc0.size; (repeat' (first | with_reducible exact Below.refl _ _ | with_reducible assumption | with_reducible refine Below.drew ?_ | with_reducible refine Below_drewN ?_ _ | with_reducible refine Below.alloc ?_ ?_ _ | with_reducible refine Below.setCell ?_ ?_ _ | omega | (simp; done) | (simp; omega))))
              have hsl : wa.heap.size < (wa.alloc (.cells #[.int .i64 r.ver, .int .i64 r.flow, .int .i64 r.next] 28)).heap.size := by simp
              have hS : SA wo.heap.size r (wa.alloc (.cells #[.int .i64 r.ver, .int .i64 r.flow, .int .i64 r.next] 28)) := hSw.under hrl (hb0.trans (hc1.mono hb0.size))
              refine hK6 _ _ (fun _ => hS) ?_
              clear hK6
              generalize (wa.alloc (.cells #[.int .i64 r.ver, .int .i64 r.flow, .int .i64 r.next] 28)) = x1 at *
              clear hS
              refine wpAnyK_call (i := 0) rfl (by kernel_rfl) (by kernel_rfl) fun K0 hK0 => ?_
              go_simp
              go_wp2_with fail
              have ho0 : ownR ruleS 28 (fun _ => False) wa.heap.size (x1.alloc (.cells #[] 28)) (some ⟨x1.heap.size, 0, none⟩) 0 0 [] := ownR.lit (cs := []) rfl rfl hc1.size (by decide) (by simp) (fun _ h => h.elim)
              have hc2 : Below wa.heap.size wa (x1.alloc (.cells #[] 28)) := hc1.trans (by have := hc1.size; (repeat' (first | with_reducible exact Below.refl _ _ | with_reducible assumption | with_reducible refine Below.drew ?_ | with_reducible refine Below_drewN ?_ _ | with_reducible refine Below.alloc ?_ ?_ _ | with_reducible refine Below.setCell ?_ ?_ _ | omega | (simp; done) | (simp; omega))))
              have hsz2 : x1.heap.size ≤ (x1.alloc (.cells #[] 28)).heap.size := by simp
              have hsb := hsb.alloc (.cells #[] 28)
              have hne : some wa.heap.size ≠ blk (some (⟨x1.heap.size, 0, none⟩ : Addr)) := by
                intro h
                have h2 : wa.heap.size = x1.heap.size := by simpa [blk] using h
                omega
              have hS : SA wo.heap.size r (x1.alloc (.cells #[] 28)) := hSw.under hrl (hb0.trans (hc2.mono hb0.size))
              refine hK0 _ _ (fun _ => hS) ?_
              clear hK0
              generalize (x1.alloc (.cells #[] 28)) = x2 at *
              clear hS
              refine wpAnyK_call (i := 4) rfl (by kernel_rfl) (by kernel_rfl) fun K4 hK4 => ?_
              refine wp_appR (sh := ruleS) (n := 0) (m := k) (.tmp 77) (.tmp 80) 22 (by rfl) 28 i0 (.agg #[.int .i64 0, .int .i64 0, .int .i64 0]) 24 Try.underlying22 hi hz0 hz1 hz2 rfl (by decide) (ok := fun _ => False) (base := wa.heap.size) (by rfl) ho0 (by rfl) hlk (takeSrc (hrow9.below (hb0.trans (hc2.mono hb0.size))) k) (by simp only [maxLen]; omega) (by omega) hc2.size ?_
              intro ao4 cap4 x3 ho4 hg4 hlie4
              have hc3 : Below wa.heap.size wa x3 := hc2.trans (grown_below (B := wa.heap.size) hg4 (fun k hk => (ho0.lt k hk).1) hc2.size)
              simp only [Nat.zero_add, List.nil_append] at ho4
              simp only [Nat.zero_add, Act.put, List.getElem_toArray, List.getElem_cons_succ, List.getElem_cons_zero, List.setIfInBounds_toArray, List.set_cons_succ, List.set_cons_zero]
              have hsb := hsb.grown hg4 hne
              have hne : some wa.heap.size ≠ blk ao4 := by
                rcases hlie4 with h | h
                · rw [h]; exact hne
                · rw [h]; intro h2; have h3 : wa.heap.size = x2.heap.size := by simpa using h2
                  omega
              have hS : SA wo.heap.size r x3 := hSw.under hrl (hb0.trans (hc3.mono hb0.size))
              refine hK4 _ _ (fun _ => hS) ?_
              clear hK4
              clear hS
              refine wpAnyK_call (i := 7) rfl (by kernel_rfl) (by kernel_rfl) fun K7 hK7 => ?_
              refine wp_appR (sh := ruleS) (n := k) (m := 1) (.tmp 81) (.tmp 83) 22 (by rfl) 28 i0 (.agg #[.int .i64 0, .int .i64 0, .int .i64 0]) 24 Try.underlying22 hi hz0 hz1 hz2 rfl (by decide) (ok := fun _ => False) (base := wa.heap.size) (by rfl) ho4 (by rfl) rfl (srcRep.ruleB r hsb hri) (by simp only [maxLen]; omega) (by omega) hc3.size ?_
              intro ao7 cap7 x4 ho7 hg7 hlie7
              have hc4 : Below wa.heap.size wa x4 := hc3.trans (grown_below (B := wa.heap.size) hg7 (fun k hk => (ho4.lt k hk).1) hc3.size)
              simp only [Nat.zero_add, Act.put, List.getElem_toArray, List.getElem_cons_succ, List.getElem_cons_zero, List.setIfInBounds_toArray, List.set_cons_succ, List.set_cons_zero]
              have hS : SA wo.heap.size r x4 := hSw.under hrl (hb0.trans (hc4.mono hb0.size))
              refine hK7 _ _ (fun _ => hS) ?_
              clear hK7
              clear hS
              refine wpAnyK_call (i := 11) rfl (by kernel_rfl) (by kernel_rfl) fun K11 hK11 => ?_
              refine wp_appR (sh := ruleS) (n := k + 1) (m := ys.length - k) (.tmp 84) (.tmp 87) 22 (by rfl) 28 i0 (.agg #[.int .i64 0, .int .i64 0, .int .i64 0]) 24 Try.underlying22 hi hz0 hz1 hz2 rfl (by decide) (ok := fun _ => False) (base := wa.heap.size) (by rfl) ho7 (by rfl) (by simp) (dropSrc (hrow9.below (hb0.trans (hc4.mono hb0.size))) hk) (by simp only [maxLen]; omega) (by omega) hc4.size ?_
              intro ao11 cap11 x5 ho11 hg11 hlie11
              have hc5 : Below wa.heap.size wa x5 := hc4.trans (grown_below (B := wa.heap.size) hg11 (fun k hk => (ho7.lt k hk).1) hc4.size)
              simp only [Nat.zero_add, Act.put, List.getElem_toArray, List.getElem_cons_succ, List.getElem_cons_zero, List.setIfInBounds_toArray, List.set_cons_succ, List.set_cons_zero]
              have hS : SA wo.heap.size r x5 := hSw.under hrl (hb0.trans (hc5.mono hb0.size))
              refine hK11 _ _ (fun _ => hS) ?_
              clear hK11
              refine wpAnyK_take' (i := 12) _ rfl (by kernel_rfl) (fun _ _ _ h => hQp _ _ _ _ h) hS (yields_value (by kernel_rfl) (by intro w0 hw0; have hw1 := hw0; simp only [SA] at hw1; first | (go_simp; done) | (go_simp; rfl))) ?_; simp only [Act.put, List.getElem_toArray, List.getElem_cons_succ, List.getElem_cons_zero, List.setIfInBounds_toArray, List.set_cons_succ, List.set_cons_zero]
              refine wpAnyK_done (by kernel_rfl) ?_ _
              refine hR _ _ ?_
              iterate 13 apply Exists.intro
              refine ⟨?_, ⟨ao11, cap11, k + 1 + (ys.length - k), rfl, by omega, by have h9 := ho11.row (ok' := fun b => ok b ∨ w.heap.size ≤ b) (fun _ h => h.elim) (fun kk hkk => .inr (by have h5 := (ho11.lt kk hkk).1; have h6 := hb0.size; have h7 := hB10.size; omega)); simpa using h9, hb0.trans (hc5.mono hb0.size)⟩⟩
              simp only [puts, Act.put, List.setIfInBounds_toArray, List.set_cons_succ, List.set_cons_zero]
              rfl
          rintro a' w8 ⟨v7, v77, v78, v79, v80, v81, v82, v83, v84, v85, v86, v87, v88, rfl, hb8⟩
          simp only [puts, Act.put, List.setIfInBounds_toArray, List.set_cons_succ, List.set_cons_zero]
          obtain ⟨ao', cap', nn, rfl, rfl, hrow8, hb9⟩ := hb8
          have hB11 : Below w.heap.size w w8 := hB10.trans (hb9.mono (by omega))
          clear hb9 hS0
          go_wp2
          case roundEnd =>
            go_roundw
            case rel => exact ⟨j + 1, _, ao', cap', by go_num, by omega, by rw [hlz], by rw [hlz]; omega, hrow8, hys, hB11⟩
            case measure => simp [intOf] <;> omega
        · skip
          have hdn : ys.drop k = [] := List.drop_of_length_le (by omega)
          by_cases hcz : cap = k
          · have hcz2 : k = cap := hcz.symm
            subst hcz2
            refine wp_region_to (SA wo.heap.size r) 99 (fun a0 a' w' => ∃ v7 v77 v78 v79 v80 v81 v82 v83 v84 v85 v86 v87 v88, a' = puts a0 [(7, v7), (77, v77), (78, v78), (79, v79), (80, v80), (81, v81), (82, v82), (83, v83), (84, v84), (85, v85), (86, v86), (87, v87), (88, v88)] ∧ ∃ ao' cap' nn, v7 = .slice ao' nn cap' ∧ nn = ys.length + 1 ∧ rowRep ruleS (fun b => ok b ∨ w.heap.size ≤ b) w' ao' cap' (ys.take k ++ r :: ys.drop k) ∧ Below w9.heap.size w9 w') (by kernel_rfl) ?_ ?_
            · intro Q' hR hQp
              have hb0 : Below w9.heap.size w9 w9.drew := by (repeat' (first | with_reducible exact Below.refl _ _ | with_reducible assumption | with_reducible refine Below.drew ?_ | with_reducible refine Below_drewN ?_ _ | with_reducible refine Below.alloc ?_ ?_ _ | with_reducible refine Below.setCell ?_ ?_ _ | omega | (simp; done) | (simp; omega)))
              have hS : SA wo.heap.size r w9.drew := hS0
              generalize w9.drew = wa at *
              have hc0 : Below wa.heap.size wa wa := Below.refl _ _
              refine wpAnyK_take' (i := 1) _ rfl (by kernel_rfl) (fun _ _ _ h => hQp _ _ _ _ h) hS (yields_value (by kernel_rfl) (by intro w0 hw0; have hw1 := hw0; simp only [SA] at hw1; first | (go_simp; done) | (go_simp; rfl))) ?_; simp only [Act.put, List.getElem_toArray, List.getElem_cons_succ, List.getElem_cons_zero, List.setIfInBounds_toArray, List.set_cons_succ, List.set_cons_zero]
              refine wpAnyK_take' (i := 2) _ rfl (by kernel_rfl) (fun _ _ _ h => hQp _ _ _ _ h) hS (yields_value (by kernel_rfl) (by intro w0 hw0; have hw1 := hw0; simp only [SA] at hw1; first | (go_simp; done) | (go_simp; rfl))) ?_; simp only [Act.put, List.getElem_toArray, List.getElem_cons_succ, List.getElem_cons_zero, List.setIfInBounds_toArray, List.set_cons_succ, List.set_cons_zero]
              refine wpAnyK_take' (i := 3) _ rfl (by kernel_rfl) (fun _ _ _ h => hQp _ _ _ _ h) hS (yields_value (by kernel_rfl) (by intro w0 hw0; have hw1 := hw0; simp only [SA] at hw1; first | (go_simp; done) | (go_simp; rfl))) ?_; simp only [Act.put, List.getElem_toArray, List.getElem_cons_succ, List.getElem_cons_zero, List.setIfInBounds_toArray, List.set_cons_succ, List.set_cons_zero]
              refine wpAnyK_take' (i := 5) _ rfl (by kernel_rfl) (fun _ _ _ h => hQp _ _ _ _ h) hS (yields_value (by kernel_rfl) (by intro w0 hw0; have hw1 := hw0; simp only [SA] at hw1; first | (go_simp; done) | (go_simp; rfl))) ?_; simp only [Act.put, List.getElem_toArray, List.getElem_cons_succ, List.getElem_cons_zero, List.setIfInBounds_toArray, List.set_cons_succ, List.set_cons_zero]
              refine wpAnyK_take' (i := 8) _ rfl (by kernel_rfl) (fun _ _ _ h => hQp _ _ _ _ h) hS (yields_value (by kernel_rfl) (by intro w0 hw0; have hw1 := hw0; simp only [SA] at hw1; first | (go_simp; done) | (go_simp; rfl))) ?_; simp only [Act.put, List.getElem_toArray, List.getElem_cons_succ, List.getElem_cons_zero, List.setIfInBounds_toArray, List.set_cons_succ, List.set_cons_zero]
              refine wpAnyK_take' (i := 9) _ rfl (by kernel_rfl) (fun _ _ _ h => hQp _ _ _ _ h) hS (yields_value (by kernel_rfl) (by intro w0 hw0; have hw1 := hw0; simp only [SA] at hw1; first | (go_simp; done) | (go_simp; rfl))) ?_; simp only [Act.put, List.getElem_toArray, List.getElem_cons_succ, List.getElem_cons_zero, List.setIfInBounds_toArray, List.set_cons_succ, List.set_cons_zero]
              refine wpAnyK_take' (i := 10) _ rfl (by kernel_rfl) (fun _ _ _ h => hQp _ _ _ _ h) hS (yields_value (by kernel_rfl) (by intro w0 hw0; have hw1 := hw0; simp only [SA] at hw1; first | (go_simp; done) | (go_simp; rfl))) ?_; simp only [Act.put, List.getElem_toArray, List.getElem_cons_succ, List.getElem_cons_zero, List.setIfInBounds_toArray, List.set_cons_succ, List.set_cons_zero]
              refine wpAnyK_two (i := 0) (j := 6) rfl rfl (by kernel_rfl) (by kernel_rfl) (by kernel_rfl) (fun K0 hK0 => ?_) (fun K6 hK6 => ?_)
              · skip
                go_simp
                go_wp2_with fail
                have ho0 : ownR ruleS 28 (fun _ => False) wa.heap.size (wa.alloc (.cells #[] 28)) (some ⟨wa.heap.size, 0, none⟩) 0 0 [] := ownR.lit (cs := []) rfl rfl hc0.size (by decide) (by simp) (fun _ h => h.elim)
                have hc1 : Below wa.heap.size wa (wa.alloc (.cells #[] 28)) := hc0.trans (by have := hc0.size; (repeat' (first | with_reducible exact Below.refl _ _ | with_reducible assumption | with_reducible refine Below.drew ?_ | with_reducible refine Below_drewN ?_ _ | with_reducible refine Below.alloc ?_ ?_ _ | with_reducible refine Below.setCell ?_ ?_ _ | omega | (simp; done) | (simp; omega))))
                have hS : SA wo.heap.size r (wa.alloc (.cells #[] 28)) := hSw.under hrl (hb0.trans (hc1.mono hb0.size))
                refine hK0 _ _ (fun _ => hS) ?_
                clear hK0
                generalize (wa.alloc (.cells #[] 28)) = x1 at *
                refine wpAnyK_two (i := 4) (j := 6) rfl rfl (by kernel_rfl) (by kernel_rfl) (by kernel_rfl) (fun K4 hK4 => ?_) (fun K6 hK6 => ?_)
                · skip
                  refine wp_appR (sh := ruleS) (n := 0) (m := k) (.tmp 77) (.tmp 80) 22 (by rfl) 28 i0 (.agg #[.int .i64 0, .int .i64 0, .int .i64 0]) 24 Try.underlying22 hi hz0 hz1 hz2 rfl (by decide) (ok := fun _ => False) (base := wa.heap.size) (by rfl) ho0 (by rfl) hlk (takeSrc (hrow9.below (hb0.trans (hc1.mono hb0.size))) k) (by simp only [maxLen]; omega) (by omega) hc1.size ?_
                  intro ao4 cap4 x2 ho4 hg4 hlie4
                  have hc2 : Below wa.heap.size wa x2 := hc1.trans (grown_below (B := wa.heap.size) hg4 (fun k hk => (ho0.lt k hk).1) hc1.size)
                  simp only [Nat.zero_add, List.nil_append] at ho4
                  simp only [Nat.zero_add, Act.put, List.getElem_toArray, List.getElem_cons_succ, List.getElem_cons_zero, List.setIfInBounds_toArray, List.set_cons_succ, List.set_cons_zero]
                  have hS : SA wo.heap.size r x2 := hSw.under hrl (hb0.trans (hc2.mono hb0.size))
                  refine hK4 _ _ (fun _ => hS) ?_
                  clear hK4
                  clear hS
                  refine wpAnyK_call (i := 6) rfl (by kernel_rfl) (by kernel_rfl) fun K6 hK6 => ?_
                  go_simp
                  go_wp2_with fail
                  have hsb : blockIs (x2.alloc (.cells #[.int .i64 r.ver, .int .i64 r.flow, .int .i64 r.next] 28)) x2.heap.size 28 #[.int .i64 r.ver, .int .i64 r.flow, .int .i64 r.next] := blockIs.new rfl
                  have hc3 : Below wa.heap.size wa (x2.alloc (.cells #[.int .i64 r.ver, .int .i64 r.flow, .int .i64 r.next] 28)) := hc2.trans (by have := hc2.size; (repeat' (first | with_reducible exact Below.refl _ _ | with_reducible assumption | with_reducible refine Below.drew ?_ | with_reducible refine Below_drewN ?_ _ | with_reducible refine Below.alloc ?_ ?_ _ | with_reducible refine Below.setCell ?_ ?_ _ | omega | (simp; done) | (simp; omega))))
                  have hsl : x2.heap.size < (x2.alloc (.cells #[.int .i64 r.ver, .int .i64 r.flow, .int .i64 r.next] 28)).heap.size := by simp
                  have hne : some x2.heap.size ≠ blk ao4 := fun e => by have := (ho4.lt _ e.symm).2; omega
                  have ho4 := ho4.alloc (.cells #[.int .i64 r.ver, .int .i64 r.flow, .int .i64 r.next] 28)
                  have hS : SA wo.heap.size r (x2.alloc (.cells #[.int .i64 r.ver, .int .i64 r.flow, .int .i64 r.next] 28)) := hSw.under hrl (hb0.trans (hc3.mono hb0.size))
                  refine hK6 _ _ (fun _ => hS) ?_
                  clear hK6
                  generalize (x2.alloc (.cells #[.int .i64 r.ver, .int .i64 r.flow, .int .i64 r.next] 28)) = x3 at *
                  clear hS
                  refine wpAnyK_call (i := 7) rfl (by kernel_rfl) (by kernel_rfl) fun K7 hK7 => ?_
                  refine wp_appR (sh := ruleS) (n := k) (m := 1) (.tmp 81) (.tmp 83) 22 (by rfl) 28 i0 (.agg #[.int .i64 0, .int .i64 0, .int .i64 0]) 24 Try.underlying22 hi hz0 hz1 hz2 rfl (by decide) (ok := fun _ => False) (base := wa.heap.size) (by rfl) ho4 (by rfl) rfl (srcRep.ruleB r hsb hri) (by simp only [maxLen]; omega) (by omega) hc3.size ?_
                  intro ao7 cap7 x4 ho7 hg7 hlie7
                  have hc4 : Below wa.heap.size wa x4 := hc3.trans (grown_below (B := wa.heap.size) hg7 (fun k hk => (ho4.lt k hk).1) hc3.size)
                  simp only [Nat.zero_add, Act.put, List.getElem_toArray, List.getElem_cons_succ, List.getElem_cons_zero, List.setIfInBounds_toArray, List.set_cons_succ, List.set_cons_zero]
                  have hS : SA wo.heap.size r x4 := hSw.under hrl (hb0.trans (hc4.mono hb0.size))
                  refine hK7 _ _ (fun _ => hS) ?_
                  clear hK7
                  clear hS
                  refine wpAnyK_call (i := 11) rfl (by kernel_rfl) (by kernel_rfl) fun K11 hK11 => ?_
                  refine wp_appR (sh := ruleS) (n := k + 1) (m := 0) (.tmp 84) (.tmp 87) 22 (by rfl) 28 i0 (.agg #[.int .i64 0, .int .i64 0, .int .i64 0]) 24 Try.underlying22 hi hz0 hz1 hz2 rfl (by decide) (ok := fun _ => False) (base := wa.heap.size) (by rfl) ho7 (by rfl) (ys := []) (by first | rfl | (simp; omega)) (.inl rfl) (by simp only [maxLen]; omega) (by omega) hc4.size ?_
                  intro ao11 cap11 x5 ho11 hg11 hlie11
                  have hc5 : Below wa.heap.size wa x5 := hc4.trans (grown_below (B := wa.heap.size) hg11 (fun k hk => (ho7.lt k hk).1) hc4.size)
                  simp only [Nat.zero_add, Act.put, List.getElem_toArray, List.getElem_cons_succ, List.getElem_cons_zero, List.setIfInBounds_toArray, List.set_cons_succ, List.set_cons_zero]
                  have hS : SA wo.heap.size r x5 := hSw.under hrl (hb0.trans (hc5.mono hb0.size))
                  refine hK11 _ _ (fun _ => hS) ?_
                  clear hK11
                  refine wpAnyK_take' (i := 12) _ rfl (by kernel_rfl) (fun _ _ _ h => hQp _ _ _ _ h) hS (yields_value (by kernel_rfl) (by intro w0 hw0; have hw1 := hw0; simp only [SA] at hw1; first | (go_simp; done) | (go_simp; rfl))) ?_; simp only [Act.put, List.getElem_toArray, List.getElem_cons_succ, List.getElem_cons_zero, List.setIfInBounds_toArray, List.set_cons_succ, List.set_cons_zero]
                  refine wpAnyK_done (by kernel_rfl) ?_ _
                  refine hR _ _ ?_
                  iterate 13 apply Exists.intro
                  refine ⟨?_, ⟨ao11, cap11, k + 1 + 0, rfl, by omega, by have h9 := ho11.row (ok' := fun b => ok b ∨ w.heap.size ≤ b) (fun _ h => h.elim) (fun kk hkk => .inr (by have h5 := (ho11.lt kk hkk).1; have h6 := hb0.size; have h7 := hB10.size; omega)); rw [hdn]; simpa using h9, hb0.trans (hc5.mono hb0.size)⟩⟩
                  simp only [puts, Act.put, List.setIfInBounds_toArray, List.set_cons_succ, List.set_cons_zero]
                  rfl
                · skip
                  go_simp
                  go_wp2_with fail
                  have hsb : blockIs (x1.alloc (.cells #[.int .i64 r.ver, .int .i64 r.flow, .int .i64 r.next] 28)) x1.heap.size 28 #[.int .i64 r.ver, .int .i64 r.flow, .int .i64 r.next] := blockIs.new rfl
                  have hc2 : Below wa.heap.size wa (x1.alloc (.cells #[.int .i64 r.ver, .int .i64 r.flow, .int .i64 r.next] 28)) := hc1.trans (by have := hc1.size; (repeat' (first | with_reducible exact Below.refl _ _ | with_reducible assumption | with_reducible refine Below.drew ?_ | with_reducible refine Below_drewN ?_ _ | with_reducible refine Below.alloc ?_ ?_ _ | with_reducible refine Below.setCell ?_ ?_ _ | omega | (simp; done) | (simp; omega))))
                  have hsl : x1.heap.size < (x1.alloc (.cells #[.int .i64 r.ver, .int .i64 r.flow, .int .i64 r.next] 28)).heap.size := by simp
                  have hne : some x1.heap.size ≠ blk (some (⟨wa.heap.size, 0, none⟩ : Addr)) := fun e => by have := (ho0.lt _ e.symm).2; omega
                  have ho0 := ho0.alloc (.cells #[.int .i64 r.ver, .int .i64 r.flow, .int .i64 r.next] 28)
                  have hS : SA wo.heap.size r (x1.alloc (.cells #[.int .i64 r.ver, .int .i64 r.flow, .int .i64 r.next] 28)) := hSw.under hrl (hb0.trans (hc2.mono hb0.size))
                  refine hK6 _ _ (fun _ => hS) ?_
                  clear hK6
                  generalize (x1.alloc (.cells #[.int .i64 r.ver, .int .i64 r.flow, .int .i64 r.next] 28)) = x2 at *
                  clear hS
                  refine wpAnyK_call (i := 4) rfl (by kernel_rfl) (by kernel_rfl) fun K4 hK4 => ?_
                  refine wp_appR (sh := ruleS) (n := 0) (m := k) (.tmp 77) (.tmp 80) 22 (by rfl) 28 i0 (.agg #[.int .i64 0, .int .i64 0, .int .i64 0]) 24 Try.underlying22 hi hz0 hz1 hz2 rfl (by decide) (ok := fun _ => False) (base := wa.heap.size) (by rfl) ho0 (by rfl) hlk (takeSrc (hrow9.below (hb0.trans (hc2.mono hb0.size))) k) (by simp only [maxLen]; omega) (by omega) hc2.size ?_
                  intro ao4 cap4 x3 ho4 hg4 hlie4
                  have hc3 : Below wa.heap.size wa x3 := hc2.trans (grown_below (B := wa.heap.size) hg4 (fun k hk => (ho0.lt k hk).1) hc2.size)
                  simp only [Nat.zero_add, List.nil_append] at ho4
                  simp only [Nat.zero_add, Act.put, List.getElem_toArray, List.getElem_cons_succ, List.getElem_cons_zero, List.setIfInBounds_toArray, List.set_cons_succ, List.set_cons_zero]
                  have hsb := hsb.grown hg4 hne
                  have hne : some x1.heap.size ≠ blk ao4 := by
                    rcases hlie4 with h | h
                    · rw [h]; exact hne
                    · rw [h]; intro h2; have h3 : x1.heap.size = x2.heap.size := by simpa using h2
                      omega
                  have hS : SA wo.heap.size r x3 := hSw.under hrl (hb0.trans (hc3.mono hb0.size))
                  refine hK4 _ _ (fun _ => hS) ?_
                  clear hK4
                  clear hS
                  refine wpAnyK_call (i := 7) rfl (by kernel_rfl) (by kernel_rfl) fun K7 hK7 => ?_
                  refine wp_appR (sh := ruleS) (n := k) (m := 1) (.tmp 81) (.tmp 83) 22 (by rfl) 28 i0 (.agg #[.int .i64 0, .int .i64 0, .int .i64 0]) 24 Try.underlying22 hi hz0 hz1 hz2 rfl (by decide) (ok := fun _ => False) (base := wa.heap.size) (by rfl) ho4 (by rfl) rfl (srcRep.ruleB r hsb hri) (by simp only [maxLen]; omega) (by omega) hc3.size ?_
                  intro ao7 cap7 x4 ho7 hg7 hlie7
                  have hc4 : Below wa.heap.size wa x4 := hc3.trans (grown_below (B := wa.heap.size) hg7 (fun k hk => (ho4.lt k hk).1) hc3.size)
                  simp only [Nat.zero_add, Act.put, List.getElem_toArray, List.getElem_cons_succ, List.getElem_cons_zero, List.setIfInBounds_toArray, List.set_cons_succ, List.set_cons_zero]
                  have hS : SA wo.heap.size r x4 := hSw.under hrl (hb0.trans (hc4.mono hb0.size))
                  refine hK7 _ _ (fun _ => hS) ?_
                  clear hK7
                  clear hS
                  refine wpAnyK_call (i := 11) rfl (by kernel_rfl) (by kernel_rfl) fun K11 hK11 => ?_
                  refine wp_appR (sh := ruleS) (n := k + 1) (m := 0) (.tmp 84) (.tmp 87) 22 (by rfl) 28 i0 (.agg #[.int .i64 0, .int .i64 0, .int .i64 0]) 24 Try.underlying22 hi hz0 hz1 hz2 rfl (by decide) (ok := fun _ => False) (base := wa.heap.size) (by rfl) ho7 (by rfl) (ys := []) (by first | rfl | (simp; omega)) (.inl rfl) (by simp only [maxLen]; omega) (by omega) hc4.size ?_
                  intro ao11 cap11 x5 ho11 hg11 hlie11
                  have hc5 : Below wa.heap.size wa x5 := hc4.trans (grown_below (B := wa.heap.size) hg11 (fun k hk => (ho7.lt k hk).1) hc4.size)
                  simp only [Nat.zero_add, Act.put, List.getElem_toArray, List.getElem_cons_succ, List.getElem_cons_zero, List.setIfInBounds_toArray, List.set_cons_succ, List.set_cons_zero]
                  have hS : SA wo.heap.size r x5 := hSw.under hrl (hb0.trans (hc5.mono hb0.size))
                  refine hK11 _ _ (fun _ => hS) ?_
                  clear hK11
                  refine wpAnyK_take' (i := 12) _ rfl (by kernel_rfl) (fun _ _ _ h => hQp _ _ _ _ h) hS (yields_value (by kernel_rfl) (by intro w0 hw0; have hw1 := hw0; simp only [SA] at hw1; first | (go_simp; done) | (go_simp; rfl))) ?_; simp only [Act.put, List.getElem_toArray, List.getElem_cons_succ, List.getElem_cons_zero, List.setIfInBounds_toArray, List.set_cons_succ, List.set_cons_zero]
                  refine wpAnyK_done (by kernel_rfl) ?_ _
                  refine hR _ _ ?_
                  iterate 13 apply Exists.intro
                  refine ⟨?_, ⟨ao11, cap11, k + 1 + 0, rfl, by omega, by have h9 := ho11.row (ok' := fun b => ok b ∨ w.heap.size ≤ b) (fun _ h => h.elim) (fun kk hkk => .inr (by have h5 := (ho11.lt kk hkk).1; have h6 := hb0.size; have h7 := hB10.size; omega)); rw [hdn]; simpa using h9, hb0.trans (hc5.mono hb0.size)⟩⟩
                  simp only [puts, Act.put, List.setIfInBounds_toArray, List.set_cons_succ, List.set_cons_zero]
                  rfl
              · skip
                go_simp
                go_wp2_with fail
                have hsb : blockIs (wa.alloc (.cells #[.int .i64 r.ver, .int .i64 r.flow, .int .i64 r.next] 28)) wa.heap.size 28 #[.int .i64 r.ver, .int .i64 r.flow, .int .i64 r.next] := blockIs.new rfl
                have hc1 : Below wa.heap.size wa (wa.alloc (.cells #[.int .i64 r.ver, .int .i64 r.flow, .int .i64 r.next] 28)) := hc0.trans (by have := hc0.size; (repeat' (first | with_reducible exact Below.refl _ _ | with_reducible assumption | with_reducible refine Below.drew ?_ | with_reducible refine Below_drewN ?_ _ | with_reducible refine Below.alloc ?_ ?_ _ | with_reducible refine Below.setCell ?_ ?_ _ | omega | (simp; done) | (simp; omega))))
                have hsl : wa.heap.size < (wa.alloc (.cells #[.int .i64 r.ver, .int .i64 r.flow, .int .i64 r.next] 28)).heap.size := by simp
                have hS : SA wo.heap.size r (wa.alloc (.cells #[.int .i64 r.ver, .int .i64 r.flow, .int .i64 r.next] 28)) := hSw.under hrl (hb0.trans (hc1.mono hb0.size))
                refine hK6 _ _ (fun _ => hS) ?_
                clear hK6
                generalize (wa.alloc (.cells #[.int .i64 r.ver, .int .i64 r.flow, .int .i64 r.next] 28)) = x1 at *
                clear hS
                refine wpAnyK_call (i := 0) rfl (by kernel_rfl) (by kernel_rfl) fun K0 hK0 => ?_
                go_simp
                go_wp2_with fail
                have ho0 : ownR ruleS 28 (fun _ => False) wa.heap.size (x1.alloc (.cells #[] 28)) (some ⟨x1.heap.size, 0, none⟩) 0 0 [] := ownR.lit (cs := []) rfl rfl hc1.size (by decide) (by simp) (fun _ h => h.elim)
                have hc2 : Below wa.heap.size wa (x1.alloc (.cells #[] 28)) := hc1.trans (by have := hc1.size; (repeat' (first | with_reducible exact Below.refl _ _ | with_reducible assumption | with_reducible refine Below.drew ?_ | with_reducible refine Below_drewN ?_ _ | with_reducible refine Below.alloc ?_ ?_ _ | with_reducible refine Below.setCell ?_ ?_ _ | omega | (simp; done) | (simp; omega))))
                have hsz2 : x1.heap.size ≤ (x1.alloc (.cells #[] 28)).heap.size := by simp
                have hsb := hsb.alloc (.cells #[] 28)
                have hne : some wa.heap.size ≠ blk (some (⟨x1.heap.size, 0, none⟩ : Addr)) := by
                  intro h
                  have h2 : wa.heap.size = x1.heap.size := by simpa [blk] using h
                  omega
                have hS : SA wo.heap.size r (x1.alloc (.cells #[] 28)) := hSw.under hrl (hb0.trans (hc2.mono hb0.size))
                refine hK0 _ _ (fun _ => hS) ?_
                clear hK0
                generalize (x1.alloc (.cells #[] 28)) = x2 at *
                clear hS
                refine wpAnyK_call (i := 4) rfl (by kernel_rfl) (by kernel_rfl) fun K4 hK4 => ?_
                refine wp_appR (sh := ruleS) (n := 0) (m := k) (.tmp 77) (.tmp 80) 22 (by rfl) 28 i0 (.agg #[.int .i64 0, .int .i64 0, .int .i64 0]) 24 Try.underlying22 hi hz0 hz1 hz2 rfl (by decide) (ok := fun _ => False) (base := wa.heap.size) (by rfl) ho0 (by rfl) hlk (takeSrc (hrow9.below (hb0.trans (hc2.mono hb0.size))) k) (by simp only [maxLen]; omega) (by omega) hc2.size ?_
                intro ao4 cap4 x3 ho4 hg4 hlie4
                have hc3 : Below wa.heap.size wa x3 := hc2.trans (grown_below (B := wa.heap.size) hg4 (fun k hk => (ho0.lt k hk).1) hc2.size)
                simp only [Nat.zero_add, List.nil_append] at ho4
                simp only [Nat.zero_add, Act.put, List.getElem_toArray, List.getElem_cons_succ, List.getElem_cons_zero, List.setIfInBounds_toArray, List.set_cons_succ, List.set_cons_zero]
                have hsb := hsb.grown hg4 hne
                have hne : some wa.heap.size ≠ blk ao4 := by
                  rcases hlie4 with h | h
                  · rw [h]; exact hne
                  · rw [h]; intro h2; have h3 : wa.heap.size = x2.heap.size := by simpa using h2
                    omega
                have hS : SA wo.heap.size r x3 := hSw.under hrl (hb0.trans (hc3.mono hb0.size))
                refine hK4 _ _ (fun _ => hS) ?_
                clear hK4
                clear hS
                refine wpAnyK_call (i := 7) rfl (by kernel_rfl) (by kernel_rfl) fun K7 hK7 => ?_
                refine wp_appR (sh := ruleS) (n := k) (m := 1) (.tmp 81) (.tmp 83) 22 (by rfl) 28 i0 (.agg #[.int .i64 0, .int .i64 0, .int .i64 0]) 24 Try.underlying22 hi hz0 hz1 hz2 rfl (by decide) (ok := fun _ => False) (base := wa.heap.size) (by rfl) ho4 (by rfl) rfl (srcRep.ruleB r hsb hri) (by simp only [maxLen]; omega) (by omega) hc3.size ?_
                intro ao7 cap7 x4 ho7 hg7 hlie7
                have hc4 : Below wa.heap.size wa x4 := hc3.trans (grown_below (B := wa.heap.size) hg7 (fun k hk => (ho4.lt k hk).1) hc3.size)
                simp only [Nat.zero_add, Act.put, List.getElem_toArray, List.getElem_cons_succ, List.getElem_cons_zero, List.setIfInBounds_toArray, List.set_cons_succ, List.set_cons_zero]
                have hS : SA wo.heap.size r x4 := hSw.under hrl (hb0.trans (hc4.mono hb0.size))
                refine hK7 _ _ (fun _ => hS) ?_
                clear hK7
                clear hS
                refine wpAnyK_call (i := 11) rfl (by kernel_rfl) (by kernel_rfl) fun K11 hK11 => ?_
                refine wp_appR (sh := ruleS) (n := k + 1) (m := 0) (.tmp 84) (.tmp 87) 22 (by rfl) 28 i0 (.agg #[.int .i64 0, .int .i64 0, .int .i64 0]) 24 Try.underlying22 hi hz0 hz1 hz2 rfl (by decide) (ok := fun _ => False) (base := wa.heap.size) (by rfl) ho7 (by rfl) (ys := []) (by first | rfl | (simp; omega)) (.inl rfl) (by simp only [maxLen]; omega) (by omega) hc4.size ?_
                intro ao11 cap11 x5 ho11 hg11 hlie11
                have hc5 : Below wa.heap.size wa x5 := hc4.trans (grown_below (B := wa.heap.size) hg11 (fun k hk => (ho7.lt k hk).1) hc4.size)
                simp only [Nat.zero_add, Act.put, List.getElem_toArray, List.getElem_cons_succ, List.getElem_cons_zero, List.setIfInBounds_toArray, List.set_cons_succ, List.set_cons_zero]
                have hS : SA wo.heap.size r x5 := hSw.under hrl (hb0.trans (hc5.mono hb0.size))
                refine hK11 _ _ (fun _ => hS) ?_
                clear hK11
                refine wpAnyK_take' (i := 12) _ rfl (by kernel_rfl) (fun _ _ _ h => hQp _ _ _ _ h) hS (yields_value (by kernel_rfl) (by intro w0 hw0; have hw1 := hw0; simp only [SA] at hw1; first | (go_simp; done) | (go_simp; rfl))) ?_; simp only [Act.put, List.getElem_toArray, List.getElem_cons_succ, List.getElem_cons_zero, List.setIfInBounds_toArray, List.set_cons_succ, List.set_cons_zero]
                refine wpAnyK_done (by kernel_rfl) ?_ _
                refine hR _ _ ?_
                iterate 13 apply Exists.intro
                refine ⟨?_, ⟨ao11, cap11, k + 1 + 0, rfl, by omega, by have h9 := ho11.row (ok' := fun b => ok b ∨ w.heap.size ≤ b) (fun _ h => h.elim) (fun kk hkk => .inr (by have h5 := (ho11.lt kk hkk).1; have h6 := hb0.size; have h7 := hB10.size; omega)); rw [hdn]; simpa using h9, hb0.trans (hc5.mono hb0.size)⟩⟩
                simp only [puts, Act.put, List.setIfInBounds_toArray, List.set_cons_succ, List.set_cons_zero]
                rfl
            rintro a' w8 ⟨v7, v77, v78, v79, v80, v81, v82, v83, v84, v85, v86, v87, v88, rfl, hb8⟩
            simp only [puts, Act.put, List.setIfInBounds_toArray, List.set_cons_succ, List.set_cons_zero]
            obtain ⟨ao', cap', nn, rfl, rfl, hrow8, hb9⟩ := hb8
            have hB11 : Below w.heap.size w w8 := hB10.trans (hb9.mono (by omega))
            clear hb9 hS0
            go_wp2
            case roundEnd =>
              go_roundw
              case rel => exact ⟨j + 1, _, ao', cap', by go_num, by omega, by rw [hlz], by rw [hlz]; omega, hrow8, hys, hB11⟩
              case measure => simp [intOf] <;> omega
          · skip
            refine wp_region_to (SA wo.heap.size r) 99 (fun a0 a' w' => ∃ v7 v77 v78 v79 v80 v81 v82 v83 v84 v85 v86 v87 v88, a' = puts a0 [(7, v7), (77, v77), (78, v78), (79, v79), (80, v80), (81, v81), (82, v82), (83, v83), (84, v84), (85, v85), (86, v86), (87, v87), (88, v88)] ∧ ∃ ao' cap' nn, v7 = .slice ao' nn cap' ∧ nn = ys.length + 1 ∧ rowRep ruleS (fun b => ok b ∨ w.heap.size ≤ b) w' ao' cap' (ys.take k ++ r :: ys.drop k) ∧ Below w9.heap.size w9 w') (by kernel_rfl) ?_ ?_
            · intro Q' hR hQp
              have hb0 : Below w9.heap.size w9 w9.drew := by (repeat' (first | with_reducible exact Below.refl _ _ | with_reducible assumption | with_reducible refine Below.drew ?_ | with_reducible refine Below_drewN ?_ _ | with_reducible refine Below.alloc ?_ ?_ _ | with_reducible refine Below.setCell ?_ ?_ _ | omega | (simp; done) | (simp; omega)))
              have hS : SA wo.heap.size r w9.drew := hS0
              generalize w9.drew = wa at *
              have hc0 : Below wa.heap.size wa wa := Below.refl _ _
              refine wpAnyK_take' (i := 1) _ rfl (by kernel_rfl) (fun _ _ _ h => hQp _ _ _ _ h) hS (yields_value (by kernel_rfl) (by intro w0 hw0; have hw1 := hw0; simp only [SA] at hw1; first | (go_simp; done) | (go_simp; rfl))) ?_; simp only [Act.put, List.getElem_toArray, List.getElem_cons_succ, List.getElem_cons_zero, List.setIfInBounds_toArray, List.set_cons_succ, List.set_cons_zero]
              refine wpAnyK_take' (i := 2) _ rfl (by kernel_rfl) (fun _ _ _ h => hQp _ _ _ _ h) hS (yields_value (by kernel_rfl) (by intro w0 hw0; have hw1 := hw0; simp only [SA] at hw1; first | (go_simp; done) | (go_simp; rfl))) ?_; simp only [Act.put, List.getElem_toArray, List.getElem_cons_succ, List.getElem_cons_zero, List.setIfInBounds_toArray, List.set_cons_succ, List.set_cons_zero]
              refine wpAnyK_take' (i := 3) _ rfl (by kernel_rfl) (fun _ _ _ h => hQp _ _ _ _ h) hS (yields_value (by kernel_rfl) (by intro w0 hw0; have hw1 := hw0; simp only [SA] at hw1; first | (go_simp; done) | (go_simp; rfl))) ?_; simp only [Act.put, List.getElem_toArray, List.getElem_cons_succ, List.getElem_cons_zero, List.setIfInBounds_toArray, List.set_cons_succ, List.set_cons_zero]
              refine wpAnyK_take' (i := 5) _ rfl (by kernel_rfl) (fun _ _ _ h => hQp _ _ _ _ h) hS (yields_value (by kernel_rfl) (by intro w0 hw0; have hw1 := hw0; simp only [SA] at hw1; first | (go_simp; done) | (go_simp; rfl))) ?_; simp only [Act.put, List.getElem_toArray, List.getElem_cons_succ, List.getElem_cons_zero, List.setIfInBounds_toArray, List.set_cons_succ, List.set_cons_zero]
              refine wpAnyK_take' (i := 8) _ rfl (by kernel_rfl) (fun _ _ _ h => hQp _ _ _ _ h) hS (yields_value (by kernel_rfl) (by intro w0 hw0; have hw1 := hw0; simp only [SA] at hw1; first | (go_simp; done) | (go_simp; rfl))) ?_; simp only [Act.put, List.getElem_toArray, List.getElem_cons_succ, List.getElem_cons_zero, List.setIfInBounds_toArray, List.set_cons_succ, List.set_cons_zero]
              refine wpAnyK_take' (i := 9) _ rfl (by kernel_rfl) (fun _ _ _ h => hQp _ _ _ _ h) hS (yields_value (by kernel_rfl) (by intro w0 hw0; have hw1 := hw0; simp only [SA] at hw1; first | (go_simp; done) | (go_simp; rfl))) ?_; simp only [Act.put, List.getElem_toArray, List.getElem_cons_succ, List.getElem_cons_zero, List.setIfInBounds_toArray, List.set_cons_succ, List.set_cons_zero]
              refine wpAnyK_take' (i := 10) _ rfl (by kernel_rfl) (fun _ _ _ h => hQp _ _ _ _ h) hS (yields_value (by kernel_rfl) (by intro w0 hw0; have hw1 := hw0; simp only [SA] at hw1; first | (go_simp; done) | (go_simp; rfl))) ?_; simp only [Act.put, List.getElem_toArray, List.getElem_cons_succ, List.getElem_cons_zero, List.setIfInBounds_toArray, List.set_cons_succ, List.set_cons_zero]
              refine wpAnyK_two (i := 0) (j := 6) rfl rfl (by kernel_rfl) (by kernel_rfl) (by kernel_rfl) (fun K0 hK0 => ?_) (fun K6 hK6 => ?_)
              · skip
                go_simp
                go_wp2_with fail
                have ho0 : ownR ruleS 28 (fun _ => False) wa.heap.size (wa.alloc (.cells #[] 28)) (some ⟨wa.heap.size, 0, none⟩) 0 0 [] := ownR.lit (cs := []) rfl rfl hc0.size (by decide) (by simp) (fun _ h => h.elim)
                have hc1 : Below wa.heap.size wa (wa.alloc (.cells #[] 28)) := hc0.trans (by have := hc0.size; (repeat' (first | with_reducible exact Below.refl _ _ | with_reducible assumption | with_reducible refine Below.drew ?_ | with_reducible refine Below_drewN ?_ _ | with_reducible refine Below.alloc ?_ ?_ _ | with_reducible refine Below.setCell ?_ ?_ _ | omega | (simp; done) | (simp; omega))))
                have hS : SA wo.heap.size r (wa.alloc (.cells #[] 28)) := hSw.under hrl (hb0.trans (hc1.mono hb0.size))
                refine hK0 _ _ (fun _ => hS) ?_
                clear hK0
                generalize (wa.alloc (.cells #[] 28)) = x1 at *
                refine wpAnyK_two (i := 4) (j := 6) rfl rfl (by kernel_rfl) (by kernel_rfl) (by kernel_rfl) (fun K4 hK4 => ?_) (fun K6 hK6 => ?_)
                · skip
                  refine wp_appR (sh := ruleS) (n := 0) (m := k) (.tmp 77) (.tmp 80) 22 (by rfl) 28 i0 (.agg #[.int .i64 0, .int .i64 0, .int .i64 0]) 24 Try.underlying22 hi hz0 hz1 hz2 rfl (by decide) (ok := fun _ => False) (base := wa.heap.size) (by rfl) ho0 (by rfl) hlk (takeSrc (hrow9.below (hb0.trans (hc1.mono hb0.size))) k) (by simp only [maxLen]; omega) (by omega) hc1.size ?_
                  intro ao4 cap4 x2 ho4 hg4 hlie4
                  have hc2 : Below wa.heap.size wa x2 := hc1.trans (grown_below (B := wa.heap.size) hg4 (fun k hk => (ho0.lt k hk).1) hc1.size)
                  simp only [Nat.zero_add, List.nil_append] at ho4
                  simp only [Nat.zero_add, Act.put, List.getElem_toArray, List.getElem_cons_succ, List.getElem_cons_zero, List.setIfInBounds_toArray, List.set_cons_succ, List.set_cons_zero]
                  have hS : SA wo.heap.size r x2 := hSw.under hrl (hb0.trans (hc2.mono hb0.size))
                  refine hK4 _ _ (fun _ => hS) ?_
                  clear hK4
                  clear hS
                  refine wpAnyK_call (i := 6) rfl (by kernel_rfl) (by kernel_rfl) fun K6 hK6 => ?_
                  go_simp
                  go_wp2_with fail
                  have hsb : blockIs (x2.alloc (.cells #[.int .i64 r.ver, .int .i64 r.flow, .int .i64 r.next] 28)) x2.heap.size 28 #[.int .i64 r.ver, .int .i64 r.flow, .int .i64 r.next] := blockIs.new rfl
                  have hc3 : Below wa.heap.size wa (x2.alloc (.cells #[.int .i64 r.ver, .int .i64 r.flow, .int .i64 r.next] 28)) := hc2.trans (by have := hc2.size; (repeat' (first | with_reducible exact Below.refl _ _ | with_reducible assumption | with_reducible refine Below.drew ?_ | with_reducible refine Below_drewN ?_ _ | with_reducible refine Below.alloc ?_ ?_ _ | with_reducible refine Below.setCell ?_ ?_ _ | omega | (simp; done) | (simp; omega))))
                  have hsl : x2.heap.size < (x2.alloc (.cells #[.int .i64 r.ver, .int .i64 r.flow, .int .i64 r.next] 28)).heap.size := by simp
                  have hne : some x2.heap.size ≠ blk ao4 := fun e => by have := (ho4.lt _ e.symm).2; omega
                  have ho4 := ho4.alloc (.cells #[.int .i64 r.ver, .int .i64 r.flow, .int .i64 r.next] 28)
                  have hS : SA wo.heap.size r (x2.alloc (.cells #[.int .i64 r.ver, .int .i64 r.flow, .int .i64 r.next] 28)) := hSw.under hrl (hb0.trans (hc3.mono hb0.size))
                  refine hK6 _ _ (fun _ => hS) ?_
                  clear hK6
                  generalize (x2.alloc (.cells #[.int .i64 r.ver, .int .i64 r.flow, .int .i64 r.next] 28)) = x3 at *
                  clear hS
                  refine wpAnyK_call (i := 7) rfl (by kernel_rfl) (by kernel_rfl) fun K7 hK7 => ?_
                  refine wp_appR (sh := ruleS) (n := k) (m := 1) (.tmp 81) (.tmp 83) 22 (by rfl) 28 i0 (.agg #[.int .i64 0, .int .i64 0, .int .i64 0]) 24 Try.underlying22 hi hz0 hz1 hz2 rfl (by decide) (ok := fun _ => False) (base := wa.heap.size) (by rfl) ho4 (by rfl) rfl (srcRep.ruleB r hsb hri) (by simp only [maxLen]; omega) (by omega) hc3.size ?_
                  intro ao7 cap7 x4 ho7 hg7 hlie7
                  have hc4 : Below wa.heap.size wa x4 := hc3.trans (grown_below (B := wa.heap.size) hg7 (fun k hk => (ho4.lt k hk).1) hc3.size)
                  simp only [Nat.zero_add, Act.put, List.getElem_toArray, List.getElem_cons_succ, List.getElem_cons_zero, List.setIfInBounds_toArray, List.set_cons_succ, List.set_cons_zero]
                  have hS : SA wo.heap.size r x4 := hSw.under hrl (hb0.trans (hc4.mono hb0.size))
                  refine hK7 _ _ (fun _ => hS) ?_
                  clear hK7
                  clear hS
                  refine wpAnyK_call (i := 11) rfl (by kernel_rfl) (by kernel_rfl) fun K11 hK11 => ?_
                  refine wp_appR (sh := ruleS) (n := k + 1) (m := (ys.length - k)) (.tmp 84) (.tmp 87) 22 (by rfl) 28 i0 (.agg #[.int .i64 0, .int .i64 0, .int .i64 0]) 24 Try.underlying22 hi hz0 hz1 hz2 rfl (by decide) (ok := fun _ => False) (base := wa.heap.size) (by rfl) ho7 (by rfl) (ys := []) (by first | rfl | (simp; omega)) (.inl rfl) (by simp only [maxLen]; omega) (by omega) hc4.size ?_
                  intro ao11 cap11 x5 ho11 hg11 hlie11
                  have hc5 : Below wa.heap.size wa x5 := hc4.trans (grown_below (B := wa.heap.size) hg11 (fun k hk => (ho7.lt k hk).1) hc4.size)
                  simp only [Nat.zero_add, Act.put, List.getElem_toArray, List.getElem_cons_succ, List.getElem_cons_zero, List.setIfInBounds_toArray, List.set_cons_succ, List.set_cons_zero]
                  have hS : SA wo.heap.size r x5 := hSw.under hrl (hb0.trans (hc5.mono hb0.size))
                  refine hK11 _ _ (fun _ => hS) ?_
                  clear hK11
                  refine wpAnyK_take' (i := 12) _ rfl (by kernel_rfl) (fun _ _ _ h => hQp _ _ _ _ h) hS (yields_value (by kernel_rfl) (by intro w0 hw0; have hw1 := hw0; simp only [SA] at hw1; first | (go_simp; done) | (go_simp; rfl))) ?_; simp only [Act.put, List.getElem_toArray, List.getElem_cons_succ, List.getElem_cons_zero, List.setIfInBounds_toArray, List.set_cons_succ, List.set_cons_zero]
                  refine wpAnyK_done (by kernel_rfl) ?_ _
                  refine hR _ _ ?_
                  iterate 13 apply Exists.intro
                  refine ⟨?_, ⟨ao11, cap11, k + 1 + (ys.length - k), rfl, by omega, by have h9 := ho11.row (ok' := fun b => ok b ∨ w.heap.size ≤ b) (fun _ h => h.elim) (fun kk hkk => .inr (by have h5 := (ho11.lt kk hkk).1; have h6 := hb0.size; have h7 := hB10.size; omega)); rw [hdn]; simpa using h9, hb0.trans (hc5.mono hb0.size)⟩⟩
                  simp only [puts, Act.put, List.setIfInBounds_toArray, List.set_cons_succ, List.set_cons_zero]
                  rfl
                · skip
                  go_simp
                  go_wp2_with fail
                  have hsb : blockIs (x1.alloc (.cells #[.int .i64 r.ver, .int .i64 r.flow, .int .i64 r.next] 28)) x1.heap.size 28 #[.int .i64 r.ver, .int .i64 r.flow, .int .i64 r.next] := blockIs.new rfl
                  have hc2 : Below wa.heap.size wa (x1.alloc (.cells #[.int .i64 r.ver, .int .i64 r.flow, .int .i64 r.next] 28)) := hc1.trans (by have := hc1.size; (repeat' (first | with_reducible exact Below.refl _ _ | with_reducible assumption | with_reducible refine Below.drew ?_ | with_reducible refine Below_drewN ?_ _ | with_reducible refine Below.alloc ?_ ?_ _ | with_reducible refine Below.setCell ?_ ?_ _ | omega | (simp; done) | (simp; omega))))
                  have hsl : x1.heap.size < (x1.alloc (.cells #[.int .i64 r.ver, .int .i64 r.flow, .int .i64 r.next] 28)).heap.size := by simp
                  have hne : some x1.heap.size ≠ blk (some (⟨wa.heap.size, 0, none⟩ : Addr)) := fun e => by have := (ho0.lt _ e.symm).2; omega
                  have ho0 := ho0.alloc (.cells #[.int .i64 r.ver, .int .i64 r.flow, .int .i64 r.next] 28)
                  have hS : SA wo.heap.size r (x1.alloc (.cells #[.int .i64 r.ver, .int .i64 r.flow, .int .i64 r.next] 28)) := hSw.under hrl (hb0.trans (hc2.mono hb0.size))
                  refine hK6 _ _ (fun _ => hS) ?_
                  clear hK6
                  generalize (x1.alloc (.cells #[.int .i64 r.ver, .int .i64 r.flow, .int .i64 r.next] 28)) = x2 at *
                  clear hS
                  refine wpAnyK_call (i := 4) rfl (by kernel_rfl) (by kernel_rfl) fun K4 hK4 => ?_
                  refine wp_appR (sh := ruleS) (n := 0) (m := k) (.tmp 77) (.tmp 80) 22 (by rfl) 28 i0 (.agg #[.int .i64 0, .int .i64 0, .int .i64 0]) 24 Try.underlying22 hi hz0 hz1 hz2 rfl (by decide) (ok := fun _ => False) (base := wa.heap.size) (by rfl) ho0 (by rfl) hlk (takeSrc (hrow9.below (hb0.trans (hc2.mono hb0.size))) k) (by simp only [maxLen]; omega) (by omega) hc2.size ?_
                  intro ao4 cap4 x3 ho4 hg4 hlie4
                  have hc3 : Below wa.heap.size wa x3 := hc2.trans (grown_below (B := wa.heap.size) hg4 (fun k hk => (ho0.lt k hk).1) hc2.size)
                  simp only [Nat.zero_add, List.nil_append] at ho4
                  simp only [Nat.zero_add, Act.put, List.getElem_toArray, List.getElem_cons_succ, List.getElem_cons_zero, List.setIfInBounds_toArray, List.set_cons_succ, List.set_cons_zero]
                  have hsb := hsb.grown hg4 hne
                  have hne : some x1.heap.size ≠ blk ao4 := by
                    rcases hlie4 with h | h
                    · rw [h]; exact hne
                    · rw [h]; intro h2; have h3 : x1.heap.size = x2.heap.size := by simpa using h2
                      omega
                  have hS : SA wo.heap.size r x3 := hSw.under hrl (hb0.trans (hc3.mono hb0.size))
                  refine hK4 _ _ (fun _ => hS) ?_
                  clear hK4
                  clear hS
                  refine wpAnyK_call (i := 7) rfl (by kernel_rfl) (by kernel_rfl) fun K7 hK7 => ?_
                  refine wp_appR (sh := ruleS) (n := k) (m := 1) (.tmp 81) (.tmp 83) 22 (by rfl) 28 i0 (.agg #[.int .i64 0, .int .i64 0, .int .i64 0]) 24 Try.underlying22 hi hz0 hz1 hz2 rfl (by decide) (ok := fun _ => False) (base := wa.heap.size) (by rfl) ho4 (by rfl) rfl (srcRep.ruleB r hsb hri) (by simp only [maxLen]; omega) (by omega) hc3.size ?_
                  intro ao7 cap7 x4 ho7 hg7 hlie7
                  have hc4 : Below wa.heap.size wa x4 := hc3.trans (grown_below (B := wa.heap.size) hg7 (fun k hk => (ho4.lt k hk).1) hc3.size)
                  simp only [Nat.zero_add, Act.put, List.getElem_toArray, List.getElem_cons_succ, List.getElem_cons_zero, List.setIfInBounds_toArray, List.set_cons_succ, List.set_cons_zero]
                  have hS : SA wo.heap.size r x4 := hSw.under hrl (hb0.trans (hc4.mono hb0.size))
                  refine hK7 _ _ (fun _ => hS) ?_
                  clear hK7
                  clear hS
                  refine wpAnyK_call (i := 11) rfl (by kernel_rfl) (by kernel_rfl) fun K11 hK11 => ?_
                  refine wp_appR (sh := ruleS) (n := k + 1) (m := (ys.length - k)) (.tmp 84) (.tmp 87) 22 (by rfl) 28 i0 (.agg #[.int .i64 0, .int .i64 0, .int .i64 0]) 24 Try.underlying22 hi hz0 hz1 hz2 rfl (by decide) (ok := fun _ => False) (base := wa.heap.size) (by rfl) ho7 (by rfl) (ys := []) (by first | rfl | (simp; omega)) (.inl rfl) (by simp only [maxLen]; omega) (by omega) hc4.size ?_
                  intro ao11 cap11 x5 ho11 hg11 hlie11
                  have hc5 : Below wa.heap.size wa x5 := hc4.trans (grown_below (B := wa.heap.size) hg11 (fun k hk => (ho7.lt k hk).1) hc4.size)
                  simp only [Nat.zero_add, Act.put, List.getElem_toArray, List.getElem_cons_succ, List.getElem_cons_zero, List.setIfInBounds_toArray, List.set_cons_succ, List.set_cons_zero]
                  have hS : SA wo.heap.size r x5 := hSw.under hrl (hb0.trans (hc5.mono hb0.size))
                  refine hK11 _ _ (fun _ => hS) ?_
                  clear hK11
                  refine wpAnyK_take' (i := 12) _ rfl (by kernel_rfl) (fun _ _ _ h => hQp _ _ _ _ h) hS (yields_value (by kernel_rfl) (by intro w0 hw0; have hw1 := hw0; simp only [SA] at hw1; first | (go_simp; done) | (go_simp; rfl))) ?_; simp only [Act.put, List.getElem_toArray, List.getElem_cons_succ, List.getElem_cons_zero, List.setIfInBounds_toArray, List.set_cons_succ, List.set_cons_zero]
                  refine wpAnyK_done (by kernel_rfl) ?_ _
                  refine hR _ _ ?_
                  iterate 13 apply Exists.intro
                  refine ⟨?_, ⟨ao11, cap11, k + 1 + (ys.length - k), rfl, by omega, by have h9 := ho11.row (ok' := fun b => ok b ∨ w.heap.size ≤ b) (fun _ h => h.elim) (fun kk hkk => .inr (by have h5 := (ho11.lt kk hkk).1; have h6 := hb0.size; have h7 := hB10.size; omega)); rw [hdn]; simpa using h9, hb0.trans (hc5.mono hb0.size)⟩⟩
                  simp only [puts, Act.put, List.setIfInBounds_toArray, List.set_cons_succ, List.set_cons_zero]
                  rfl
              · skip
                go_simp
                go_wp2_with fail
                have hsb : blockIs (wa.alloc (.cells #[.int .i64 r.ver, .int .i64 r.flow, .int .i64 r.next] 28)) wa.heap.size 28 #[.int .i64 r.ver, .int .i64 r.flow, .int .i64 r.next] := blockIs.new rfl
                have hc1 : Below wa.heap.size wa (wa.alloc (.cells #[.int .i64 r.ver, .int .i64 r.flow, .int .i64 r.next] 28)) := hc0.trans (by have := hc0.size; (repeat' (first | with_reducible exact Below.refl _ _ | with_reducible assumption | with_reducible refine Below.drew ?_ | with_reducible refine Below_drewN ?_ _ | with_reducible refine Below.alloc ?_ ?_ _ | with_reducible refine Below.setCell ?_ ?_ _ | omega | (simp; done) | (simp; omega))))
                have hsl : wa.heap.size < (wa.alloc (.cells #[.int .i64 r.ver, .int .i64 r.flow, .int .i64 r.next] 28)).heap.size := by simp
                have hS : SA wo.heap.size r (wa.alloc (.cells #[.int .i64 r.ver, .int .i64 r.flow, .int .i64 r.next] 28)) := hSw.under hrl (hb0.trans (hc1.mono hb0.size))
                refine hK6 _ _ (fun _ => hS) ?_
                clear hK6
                generalize (wa.alloc (.cells #[.int .i64 r.ver, .int .i64 r.flow, .int .i64 r.next] 28)) = x1 at *
                clear hS
                refine wpAnyK_call (i := 0) rfl (by kernel_rfl) (by kernel_rfl) fun K0 hK0 => ?_
                go_simp
                go_wp2_with fail
                have ho0 : ownR ruleS 28 (fun _ => False) wa.heap.size (x1.alloc (.cells #[] 28)) (some ⟨x1.heap.size, 0, none⟩) 0 0 [] := ownR.lit (cs := []) rfl rfl hc1.size (by decide) (by simp) (fun _ h => h.elim)
                have hc2 : Below wa.heap.size wa (x1.alloc (.cells #[] 28)) := hc1.trans (by have := hc1.size; (repeat' (first | with_reducible exact Below.refl _ _ | with_reducible assumption | with_reducible refine Below.drew ?_ | with_reducible refine Below_drewN ?_ _ | with_reducible refine Below.alloc ?_ ?_ _ | with_reducible refine Below.setCell ?_ ?_ _ | omega | (simp; done) | (simp; omega))))
                have hsz2 : x1.heap.size ≤ (x1.alloc (.cells #[] 28)).heap.size := by simp
                have hsb := hsb.alloc (.cells #[] 28)
                have hne : some wa.heap.size ≠ blk (some (⟨x1.heap.size, 0, none⟩ : Addr)) := by
                  intro h
                  have h2 : wa.heap.size = x1.heap.size := by simpa [blk] using h
                  omega
                have hS : SA wo.heap.size r (x1.alloc (.cells #[] 28)) := hSw.under hrl (hb0.trans (hc2.mono hb0.size))
                refine hK0 _ _ (fun _ => hS) ?_
                clear hK0
                generalize (x1.alloc (.cells #[] 28)) = x2 at *
                clear hS
                refine wpAnyK_call (i := 4) rfl (by kernel_rfl) (by kernel_rfl) fun K4 hK4 => ?_
                refine wp_appR (sh := ruleS) (n := 0) (m := k) (.tmp 77) (.tmp 80) 22 (by rfl) 28 i0 (.agg #[.int .i64 0, .int .i64 0, .int .i64 0]) 24 Try.underlying22 hi hz0 hz1 hz2 rfl (by decide) (ok := fun _ => False) (base := wa.heap.size) (by rfl) ho0 (by rfl) hlk (takeSrc (hrow9.below (hb0.trans (hc2.mono hb0.size))) k) (by simp only [maxLen]; omega) (by omega) hc2.size ?_
                intro ao4 cap4 x3 ho4 hg4 hlie4
                have hc3 : Below wa.heap.size wa x3 := hc2.trans (grown_below (B := wa.heap.size) hg4 (fun k hk => (ho0.lt k hk).1) hc2.size)
                simp only [Nat.zero_add, List.nil_append] at ho4
                simp only [Nat.zero_add, Act.put, List.getElem_toArray, List.getElem_cons_succ, List.getElem_cons_zero, List.setIfInBounds_toArray, List.set_cons_succ, List.set_cons_zero]
                have hsb := hsb.grown hg4 hne
                have hne : some wa.heap.size ≠ blk ao4 := by
                  rcases hlie4 with h | h
                  · rw [h]; exact hne
                  · rw [h]; intro h2; have h3 : wa.heap.size = x2.heap.size := by simpa using h2
                    omega
                have hS : SA wo.heap.size r x3 := hSw.under hrl (hb0.trans (hc3.mono hb0.size))
                refine hK4 _ _ (fun _ => hS) ?_
                clear hK4
                clear hS
                refine wpAnyK_call (i := 7) rfl (by kernel_rfl) (by kernel_rfl) fun K7 hK7 => ?_
                refine wp_appR (sh := ruleS) (n := k) (m := 1) (.tmp 81) (.tmp 83) 22 (by rfl) 28 i0 (.agg #[.int .i64 0, .int .i64 0, .int .i64 0]) 24 Try.underlying22 hi hz0 hz1 hz2 rfl (by decide) (ok := fun _ => False) (base := wa.heap.size) (by rfl) ho4 (by rfl) rfl (srcRep.ruleB r hsb hri) (by simp only [maxLen]; omega) (by omega) hc3.size ?_
                intro ao7 cap7 x4 ho7 hg7 hlie7
                have hc4 : Below wa.heap.size wa x4 := hc3.trans (grown_below (B := wa.heap.size) hg7 (fun k hk => (ho4.lt k hk).1) hc3.size)
                simp only [Nat.zero_add, Act.put, List.getElem_toArray, List.getElem_cons_succ, List.getElem_cons_zero, List.setIfInBounds_toArray, List.set_cons_succ, List.set_cons_zero]
                have hS : SA wo.heap.size r x4 := hSw.under hrl (hb0.trans (hc4.mono hb0.size))
                refine hK7 _ _ (fun _ => hS) ?_
                clear hK7
                clear hS
                refine wpAnyK_call (i := 11) rfl (by kernel_rfl) (by kernel_rfl) fun K11 hK11 => ?_
                refine wp_appR (sh := ruleS) (n := k + 1) (m := (ys.length - k)) (.tmp 84) (.tmp 87) 22 (by rfl) 28 i0 (.agg #[.int .i64 0, .int .i64 0, .int .i64 0]) 24 Try.underlying22 hi hz0 hz1 hz2 rfl (by decide) (ok := fun _ => False) (base := wa.heap.size) (by rfl) ho7 (by rfl) (ys := []) (by first | rfl | (simp; omega)) (.inl rfl) (by simp only [maxLen]; omega) (by omega) hc4.size ?_
                intro ao11 cap11 x5 ho11 hg11 hlie11
                have hc5 : Below wa.heap.size wa x5 := hc4.trans (grown_below (B := wa.heap.size) hg11 (fun k hk => (ho7.lt k hk).1) hc4.size)
                simp only [Nat.zero_add, Act.put, List.getElem_toArray, List.getElem_cons_succ, List.getElem_cons_zero, List.setIfInBounds_toArray, List.set_cons_succ, List.set_cons_zero]
                have hS : SA wo.heap.size r x5 := hSw.under hrl (hb0.trans (hc5.mono hb0.size))
                refine hK11 _ _ (fun _ => hS) ?_
                clear hK11
                refine wpAnyK_take' (i := 12) _ rfl (by kernel_rfl) (fun _ _ _ h => hQp _ _ _ _ h) hS (yields_value (by kernel_rfl) (by intro w0 hw0; have hw1 := hw0; simp only [SA] at hw1; first | (go_simp; done) | (go_simp; rfl))) ?_; simp only [Act.put, List.getElem_toArray, List.getElem_cons_succ, List.getElem_cons_zero, List.setIfInBounds_toArray, List.set_cons_succ, List.set_cons_zero]
                refine wpAnyK_done (by kernel_rfl) ?_ _
                refine hR _ _ ?_
                iterate 13 apply Exists.intro
                refine ⟨?_, ⟨ao11, cap11, k + 1 + (ys.length - k), rfl, by omega, by have h9 := ho11.row (ok' := fun b => ok b ∨ w.heap.size ≤ b) (fun _ h => h.elim) (fun kk hkk => .inr (by have h5 := (ho11.lt kk hkk).1; have h6 := hb0.size; have h7 := hB10.size; omega)); rw [hdn]; simpa using h9, hb0.trans (hc5.mono hb0.size)⟩⟩
                simp only [puts, Act.put, List.setIfInBounds_toArray, List.set_cons_succ, List.set_cons_zero]
                rfl
            rintro a' w8 ⟨v7, v77, v78, v79, v80, v81, v82, v83, v84, v85, v86, v87, v88, rfl, hb8⟩
            simp only [puts, Act.put, List.setIfInBounds_toArray, List.set_cons_succ, List.set_cons_zero]
            obtain ⟨ao', cap', nn, rfl, rfl, hrow8, hb9⟩ := hb8
            have hB11 : Below w.heap.size w w8 := hB10.trans (hb9.mono (by omega))
            clear hb9 hS0
            go_wp2
            case roundEnd =>
              go_roundw
              case rel => exact ⟨j + 1, _, ao', cap', by go_num, by omega, by rw [hlz], by rw [hlz]; omega, hrow8, hys, hB11⟩
              case measure => simp [intOf] <;> omega

end Go.Proofs.Ytcfcdembhjnjfaa
