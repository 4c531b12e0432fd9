/-
  The walk of the document's Back.
-/
import Derived.WalkKit
import Derived.WalkSpells
import Derived.WalkLawsBesides
import Derived.Lib.Hide
import Derived.Deep.LoopGhost
import Derived.Deep.QuietTactic
import Derived.BigQuiet
import Derived.Deep.RegionWith
import Derived.Handy
import Derived.Test.YtagldmdeohenjaaPk43
import Derived.Test.YtagldmdeohenjaaPk38
import Derived.Test.YtagldmdeohenjaaPk34
import Derived.Test.YtagldmdeohenjaaPk35
import Derived.Test.YtagldmdeohenjaaPk17
import Derived.Deep.Cut
import Derived.Test.YtagldmdeohenjaaPk36
import Derived.Test.YtagldmdeohenjaaPk37
import Derived.Test.YtagldmdeohenjaaPk41
set_option linter.unusedSimpArgs false
set_option linter.unusedVariables false
namespace Go.St
open Go.RowKit
/-- a control and orders that are handed back: rows of the caller's, or new ones -/
def refOut (ok : Nat → Prop) (N : Nat) (R : Ctl × List To × Int) (e : Ending) (w' : World) : Prop :=
  ∃ (ks : List Value) (oa : Option Addr) (oc : Nat), e = .returned (.tuple #[.agg ks.toArray, .slice oa R.2.1.length oc, .int .i64 R.2.2]) ∧ ctlS.rep (fun b => ok b ∨ N ≤ b) w' ks R.1 ∧ rowRep toS (fun b => ok b ∨ N ≤ b) w' oa oc R.2.1
theorem refOut.bad {ok : Nat → Prop} {N : Nat} {R : Ctl × List To × Int} {k : Int} {w' : World} (h : R = (noCtl, [], k)) :
    refOut ok N R (.returned (.tuple #[.agg #[.int .i64 0, .int .i64 0, .slice none 0 0, .slice none 0 0, .int .i64 0, .slice none 0 0, .slice none 0 0, .int .i64 0, .slice none 0 0], .slice none 0 0, .int .i64 k])) w' := by
  subst h
  exact ⟨_, none, 0, rfl, ctlS.mk_ (c := noCtl) (I64.small (by decide) (by decide)) (I64.small (by decide) (by decide)) (noPlanC _ _) (noPlanC _ _) (rowRep.nil _ _ _ _), rowRep.nil _ _ _ _⟩
/-- the numbers that stay, gone through up to j -/
def RestOf (n : Int) (l : List Int) (j : Nat) (rest : List Int) (had : Bool) : Prop := (had = false ∧ rest = l.take j ∧ n ∉ l.take j) ∨ (had = true ∧ ∃ i, idxIn n l = some i ∧ i < j ∧ rest = (l.take j).eraseIdx i)
theorem idxIn_first {n : Int} : ∀ {l : List Int} {j : Nat}, n ∉ l.take j → l[j]? = some n → idxIn n l = some j
  | [], j, _, h => by simp at h
  | a :: l, 0, _, h => by
    obtain rfl : a = n := by simpa using h
    unfold idxIn
    rw [if_pos rfl]
  | a :: l, j + 1, h, h2 => by
    rw [List.take_succ_cons, List.mem_cons, not_or] at h
    unfold idxIn
    rw [if_neg h.1, idxIn_first h.2 (by simpa using h2)]
    rfl
theorem take_at {l : List Int} {j : Nat} {x : Int} (hx : l[j]? = some x) : l.take (j + 1) = l.take j ++ [x] ∧ (l.take j).length = j := by
  have hj := (List.getElem?_eq_some_iff.1 hx).1
  exact ⟨by rw [List.take_add_one, hx]; rfl, by rw [List.length_take]; omega⟩
theorem rest_hit {n : Int} {l : List Int} {j : Nat} {rest : List Int} {b : Bool} {x : Int} (h : RestOf n l j rest b) (hb : b = false) (hx : l[j]? = some x) (hn : x = n) : RestOf n l (j + 1) rest true := by
  subst hn
  obtain ⟨e1, e2⟩ := take_at hx
  rcases h with ⟨_, h1, h2⟩ | ⟨h1, _⟩
  · refine .inr ⟨rfl, j, idxIn_first h2 hx, by omega, ?_⟩
    rw [e1, List.eraseIdx_append_of_length_le (by omega), e2, Nat.sub_self, h1]
    simp
  · rw [hb] at h1; exact absurd h1 (by decide)
theorem rest_pass {n : Int} {l : List Int} {j : Nat} {rest : List Int} {b : Bool} {x : Int} (h : RestOf n l j rest b) (hx : l[j]? = some x) (hb : b = true ∨ x ≠ n) : RestOf n l (j + 1) (rest ++ [x]) b := by
  obtain ⟨e1, e2⟩ := take_at hx
  rcases h with ⟨h0, h1, h2⟩ | ⟨h0, i, h1, h2, h3⟩
  · refine .inl ⟨h0, by rw [e1, h1], ?_⟩
    rw [e1, List.mem_append, not_or]
    refine ⟨h2, fun hm => ?_⟩
    have hq : n = x := by simpa using hm
    rcases hb with hb | hb
    · rw [h0] at hb; exact absurd hb (by decide)
    · exact hb hq.symm
  · refine .inr ⟨h0, i, h1, by omega, ?_⟩
    rw [e1, List.eraseIdx_append_of_lt_length (by omega), h3]
theorem rest_end {n : Int} {l : List Int} {rest : List Int} {b : Bool} (h : RestOf n l l.length rest b) : (b = false → idxIn n l = none) ∧ (b = true → ∃ i, idxIn n l = some i ∧ rest = l.eraseIdx i) := by
  refine ⟨fun hb => ?_, fun hb => ?_⟩
  · rcases h with ⟨_, _, h2⟩ | ⟨h0, _⟩
    · rw [List.take_length] at h2
      cases hq : idxIn n l with
      | none => rfl
      | some i => exact absurd (List.mem_of_getElem? (idxIn_some hq)) h2
    · rw [hb] at h0; exact absurd h0 (by decide)
  · rcases h with ⟨h0, _⟩ | ⟨_, i, h1, _, h3⟩
    · rw [hb] at h0; exact absurd h0 (by decide)
    · exact ⟨i, h1, by rw [h3, List.take_length]⟩
end Go.St
namespace Go.Proofs.Ytagldmdeohenjaa
open Go.RowKit Go.St

set_option maxRecDepth 100000 in
set_option maxHeartbeats 16000000 in
theorem refBack_c (c : Ctl) (t : Topo) (num : Int) (cs ts : List Value) (okc okt : Nat → Prop) (w : World) (h : ctlS.rep okc w cs c) (ht : topoS.rep okt w ts t) (hsm : CtlSmall c) (hI : I64 num) :
    Calls Try.prog 14 #[.agg cs.toArray, .agg ts.toArray, .int .i64 num] w fun e w' => refOut okc w.heap.size (ctlBack c t num) e w' ∧ Below w.heap.size w w' := by
  have hT := ht
  obtain ⟨n0, n1, n2, x0, x1, x2, qa, qc, rfl, hst, hnu, hn, hx, hw⟩ := ctlS.open_ h
  obtain ⟨la, lc, rfl, htn, htr⟩ := ht
  have HE1 : Hid ((topoWrong t).1 ≠ 0 → ctlBack c t num = (noCtl, [], (topoWrong t).1)) := fun h => by unfold ctlBack; rw [if_pos h]
  have HE2 : Hid ((topoWrong t).1 = 0 → idxIn num c.waits = none → ctlBack c t num = (noCtl, [], 6)) := fun h h2 => by unfold ctlBack; rw [if_neg (fun h3 => h3 h), h2]
  have HE3 : Hid ((topoWrong t).1 = 0 → ∀ i, idxIn num c.waits = some i → ctlBack c t num = ((stepsOf ⟨c.stage, c.now, c.next, c.num, c.waits.eraseIdx i⟩ t).1, (stepsOf ⟨c.stage, c.now, c.next, c.num, c.waits.eraseIdx i⟩ t).2, 0)) := fun h i h2 => by unfold ctlBack; rw [if_neg (fun h3 => h3 h), h2]
  have HTR : Hid ((topoWrong t).1 = 0 → 0 ≤ t.n ∧ t.n ≤ 8) := fun h => by have := (topo_right h).1; omega
  generalize ctlBack c t num = R at *
  obtain ⟨s1, s2, s3, s4⟩ := hsm
  obtain ⟨cst, cnow, cnext, cnum, cws⟩ := c
  dsimp only at *
  obtain ⟨lx0, lx1, lx2⟩ := hx.one
  obtain ⟨ln0, ln1, ln2⟩ := hn.one
  have hB0 : Below w.heap.size w (((w.alloc (.cells #[.int .i64 cst, n0, n1, n2, x0, x1, x2, .int .i64 cnum, .slice qa cws.length qc] 32)).alloc (.cells #[.int .i64 t.n, .slice la t.links.length lc] 24)).alloc (.cells #[.int .i64 0, .int .i64 0, .slice none 0 0, .slice none 0 0, .int .i64 0, .slice none 0 0, .slice none 0 0, .int .i64 0, .slice none 0 0] 32)) := by (repeat' (first | with_reducible exact Below.refl _ _ | with_reducible assumption | with_reducible refine Below.drew ?_ | with_reducible refine Below_drewN ?_ _ | with_reducible refine Below.alloc ?_ ?_ _ | with_reducible refine Below.setCell ?_ ?_ _ | omega | (simp; done) | (simp; omega)))
  have hC0 : blockIs (((w.alloc (.cells #[.int .i64 cst, n0, n1, n2, x0, x1, x2, .int .i64 cnum, .slice qa cws.length qc] 32)).alloc (.cells #[.int .i64 t.n, .slice la t.links.length lc] 24)).alloc (.cells #[.int .i64 0, .int .i64 0, .slice none 0 0, .slice none 0 0, .int .i64 0, .slice none 0 0, .slice none 0 0, .int .i64 0, .slice none 0 0] 32)) w.heap.size 32 #[.int .i64 cst, n0, n1, n2, x0, x1, x2, .int .i64 cnum, .slice qa cws.length qc] := ((blockIs.new rfl).alloc _).alloc _
  have hT0 : blockIs (((w.alloc (.cells #[.int .i64 cst, n0, n1, n2, x0, x1, x2, .int .i64 cnum, .slice qa cws.length qc] 32)).alloc (.cells #[.int .i64 t.n, .slice la t.links.length lc] 24)).alloc (.cells #[.int .i64 0, .int .i64 0, .slice none 0 0, .slice none 0 0, .int .i64 0, .slice none 0 0, .slice none 0 0, .int .i64 0, .slice none 0 0] 32)) (w.heap.size + 1) 24 #[.int .i64 t.n, .slice la t.links.length lc] := (blockIs.new (by simp)).alloc _
  have hZ0 : blockIs (((w.alloc (.cells #[.int .i64 cst, n0, n1, n2, x0, x1, x2, .int .i64 cnum, .slice qa cws.length qc] 32)).alloc (.cells #[.int .i64 t.n, .slice la t.links.length lc] 24)).alloc (.cells #[.int .i64 0, .int .i64 0, .slice none 0 0, .slice none 0 0, .int .i64 0, .slice none 0 0, .slice none 0 0, .int .i64 0, .slice none 0 0] 32)) (w.heap.size + 1 + 1) 32 #[.int .i64 0, .int .i64 0, .slice none 0 0, .slice none 0 0, .int .i64 0, .slice none 0 0, .slice none 0 0, .int .i64 0, .slice none 0 0] := blockIs.new (by simp)
  go_enter Try.func14, Try.ntmps14
  go_wp2_with fail
  generalize (((w.alloc (.cells #[.int .i64 cst, n0, n1, n2, x0, x1, x2, .int .i64 cnum, .slice qa cws.length qc] 32)).alloc (.cells #[.int .i64 t.n, .slice la t.links.length lc] 24)).alloc (.cells #[.int .i64 0, .int .i64 0, .slice none 0 0, .slice none 0 0, .int .i64 0, .slice none 0 0, .slice none 0 0, .int .i64 0, .slice none 0 0] 32)) = w0 at *
  refine (refWrong_c t _ okt w0 (topoS.below hT hB0)).mono ?_
  rintro e w1 ⟨rfl, hb1⟩
  have hbx : Below w1.heap.size w1 (w1.alloc (.cells #[.int .i64 (topoWrong t).1, .int .i64 (topoWrong t).2] 66)) := by (repeat' (first | with_reducible exact Below.refl _ _ | with_reducible assumption | with_reducible refine Below.drew ?_ | with_reducible refine Below_drewN ?_ _ | with_reducible refine Below.alloc ?_ ?_ _ | with_reducible refine Below.setCell ?_ ?_ _ | omega | (simp; done) | (simp; omega)))
  have hB1 := hB0.trans (hb1.mono hB0.size)
  have hB2 := hB1.trans (hbx.mono hB1.size)
  have hC2 := (hC0.under hb1).under hbx
  have hT2 := (hT0.under hb1).under hbx
  have hZ2 := (hZ0.under hb1).under hbx
  have hF2 : blockIs (w1.alloc (.cells #[.int .i64 (topoWrong t).1, .int .i64 (topoWrong t).2] 66)) w1.heap.size 66 #[.int .i64 (topoWrong t).1, .int .i64 (topoWrong t).2] := blockIs.new rfl
  have hfz : w.heap.size + 1 + 1 < w1.heap.size := (hZ0.under hb1).lt
  have hs2 : (w1.alloc (.cells #[.int .i64 (topoWrong t).1, .int .i64 (topoWrong t).2] 66)).heap.size = w1.heap.size + 1 := by simp
  have hC1 := hC0.under hb1
  clear hb1 hbx hB0 hC0 hT0 hZ0
  generalize topoWrong t = tw at *
  obtain ⟨k1, k2⟩ := tw
  dsimp only at *
  by_cases h1 : k1 = 0
  case neg =>
    have HE := Lib.hid (HE1.out h1)
    have h1' : (k1 != 0) = true := by rw [bne_iff_ne]; exact h1
    clear HE1 HE2 HE3 HTR h1 hB1 hC1
    obtain ⟨f1, f2⟩ := hF2.cells
    go_wp2
    generalize w1.alloc (.cells #[.int .i64 k1, .int .i64 k2] 66) = w2 at *
    generalize w1.heap.size = fb at *
    clear f1 f2
    have hS0 : SBf fb k1 w2.drew := hF2.cells.1 0
    refine wp_region_to (SBf fb k1) 99 (fun a0 a' w' => ∃ v20 v21 v22, a' = puts a0 [(20, v20), (21, v21), (22, v22), (7, .slice none 0 0), (8, .int .i64 k1)] ∧ blockIs w' (w.heap.size + 1 + 1) 32 #[.int .i64 0, .int .i64 0, .slice none 0 0, .slice none 0 0, .int .i64 0, .slice none 0 0, .slice none 0 0, .int .i64 0, .slice none 0 0] ∧ Below w.heap.size w w') (by kernel_rfl) ?_ ?_
    · intro Q' hR hQp
      have hb0 : Below w2.heap.size w2 w2.drew := by (repeat' (first | with_reducible exact Below.refl _ _ | with_reducible assumption | with_reducible refine Below.drew ?_ | with_reducible refine Below_drewN ?_ _ | with_reducible refine Below.alloc ?_ ?_ _ | with_reducible refine Below.setCell ?_ ?_ _ | omega | (simp; done) | (simp; omega)))
      have hS : SBf fb k1 w2.drew := hS0
      generalize w2.drew = wa at *
      have hZa := hZ2.under hb0
      have hFa := hF2.under hb0
      have hBa := hB2.trans (hb0.mono hB2.size)
      obtain ⟨z1, z2⟩ := hZa.cells
      have hzl := hZa.lt
      refine wpAnyK_take' (i := 0) _ rfl (by kernel_rfl) (fun _ _ _ h => hQp _ _ _ _ h) hS (yields_value (by kernel_rfl) (by intro w0 hw0; have hw1 := hw0; simp only [SBf] at hw1; first | (go_simp; done) | (go_simp; rfl))) ?_; simp only [Act.put, List.getElem_toArray, List.getElem_cons_succ, List.getElem_cons_zero, List.setIfInBounds_toArray, List.set_cons_succ, List.set_cons_zero]
      refine wpAnyK_take' (i := 1) _ rfl (by kernel_rfl) (fun _ _ _ h => hQp _ _ _ _ h) hS (yields_value (by kernel_rfl) (by intro w0 hw0; have hw1 := hw0; simp only [SBf] at hw1; first | (go_simp; done) | (go_simp; rfl))) ?_; simp only [Act.put, List.getElem_toArray, List.getElem_cons_succ, List.getElem_cons_zero, List.setIfInBounds_toArray, List.set_cons_succ, List.set_cons_zero]
      refine wpAnyK_take' (i := 2) _ rfl (by kernel_rfl) (fun _ _ _ h => hQp _ _ _ _ h) hS (yields_value (by kernel_rfl) (by intro w0 hw0; have hw1 := hw0; simp only [SBf] at hw1; first | (go_simp; done) | (go_simp; rfl))) ?_; simp only [Act.put, List.getElem_toArray, List.getElem_cons_succ, List.getElem_cons_zero, List.setIfInBounds_toArray, List.set_cons_succ, List.set_cons_zero]
      clear hS
      refine wpAnyK_call (i := 3) rfl (by kernel_rfl) (by kernel_rfl) fun K3 hK3 => ?_
      go_simp
      go_wp2_with fail
      obtain ⟨G, FR⟩ := set9 hZa (fun b => b ≠ w.heap.size + 1 + 1) w.heap.size (fun h => h rfl) (by omega) (.int .i64 0) (.int .i64 0) (.slice none 0 0) (.slice none 0 0) (.int .i64 0) (.slice none 0 0) (.slice none 0 0) (.int .i64 0) (.slice none 0 0)
      have hS : _ := (FR.blk hFa (.inl (by omega))).cells.1 0
      refine hK3 _ _ (fun _ => hS) ?_
      clear hK3
      refine wpAnyK_take' (i := 4) _ rfl (by kernel_rfl) (fun _ _ _ h => hQp _ _ _ _ h) hS (yields_value (by kernel_rfl) (by intro w0 hw0; have hw1 := hw0; simp only [SBf] at hw1; first | (go_simp; done) | (go_simp; rfl))) ?_; simp only [Act.put, List.getElem_toArray, List.getElem_cons_succ, List.getElem_cons_zero, List.setIfInBounds_toArray, List.set_cons_succ, List.set_cons_zero]
      refine wpAnyK_take' (i := 5) _ rfl (by kernel_rfl) (fun _ _ _ h => hQp _ _ _ _ h) hS (yields_value (by kernel_rfl) (by intro w0 hw0; have hw1 := hw0; simp only [SBf] at hw1; first | (go_simp; done) | (go_simp; rfl))) ?_; simp only [Act.put, List.getElem_toArray, List.getElem_cons_succ, List.getElem_cons_zero, List.setIfInBounds_toArray, List.set_cons_succ, List.set_cons_zero]
      refine wpAnyK_done (by kernel_rfl) ?_ _
      refine hR _ _ ?_
      iterate 3 apply Exists.intro
      refine ⟨?_, ⟨G, hBa.trans FR.below⟩⟩
      simp only [puts, Act.put, List.setIfInBounds_toArray, List.set_cons_succ, List.set_cons_zero]
      rfl
    rintro a' w8 ⟨v20, v21, v22, rfl, hb8⟩
    simp only [puts, Act.put, List.setIfInBounds_toArray, List.set_cons_succ, List.set_cons_zero]
    obtain ⟨hZ9, hB9⟩ := hb8
    obtain ⟨g1, g2⟩ := hZ9.cells
    go_wp2_with ((with_reducible refine bodyPost_ret (v := .tuple #[.agg #[.int .i64 0, .int .i64 0, .slice none 0 0, .slice none 0 0, .int .i64 0, .slice none 0 0, .slice none 0 0, .int .i64 0, .slice none 0 0], .slice none 0 0, .int .i64 k1]) ?ra1 ?rb1 ?rc1); go_must (case ra1 => simp [results, Try.results14, go_sem, g1]); go_must (case rb1 => rfl); go_must (case rc1 => exact ⟨refOut.bad HE.out, hB9⟩))
  subst h1
  obtain ⟨ht0, ht8⟩ := HTR.out (by first | trivial | rfl)
  obtain ⟨c1, c2⟩ := hC1.cells
  have hcl1 := hC1.lt
  obtain ⟨i0, hi, hz0, hz1, hz2⟩ := info_parts info_int
  have hR0 : Hid (RestOf num cws 0 [] false) := .inl ⟨rfl, by simp, by simp⟩
  go_wp2
  --CUT1
  clear c1 c2
  generalize w1.alloc (.cells #[.int .i64 0, .int .i64 k2] 66) = w2 at *
  have hwB := hw.below hB2
  clear hC1 hF2 hB1
  go_loopw [10, 11, 13, 26] (fun rv bv _ idx wr => ∃ (j : Nat) (ra : Option Addr) (rc : Nat) (rest : List Int) (b : Bool), rv = .slice ra rest.length rc ∧ bv = .bool b ∧ idx = .int .i64 j ∧ j ≤ cws.length ∧ Hid (RestOf num cws j rest b) ∧ rest.length ≤ j ∧ ownR intS 3 (fun _ => False) w2.heap.size wr ra rest.length rc rest ∧ Below w2.heap.size w2 wr) (fun _ _ _ idx _ => cws.length - (intOf idx).toNat)
  case atStart => exact ⟨0, none, 0, [], false, rfl, rfl, rfl, Nat.zero_le _, hR0, Nat.le_refl _, ownR.nil' _ _ _ _, Below.refl _ _⟩
  case round =>
    clear hR0
    obtain ⟨j, ra, rc, rest, b, rfl, rfl, rfl, hj, hRe, hrl, hO, hb⟩ := hrel
    rename World => wo
    have hso := hb.size
    by_cases hjl : j < cws.length
    · have b1 : (j : Int) < (cws.length : Int) := by omega
      have b0 : (0 : Int) ≤ (j : Int) := by omega
      obtain ⟨x, hxj⟩ : ∃ x, cws[j]? = some x := ⟨_, List.getElem?_eq_getElem hjl⟩
      obtain ⟨qb, qo, rfl, hql, hxI, hcq⟩ := intRow_get hwB hxj
      have q0 := hcq wo hb
      have hR1 : Hid (b = false → x = num → RestOf num cws (j + 1) rest true) := fun h1 h2 => rest_hit hRe.out h1 hxj h2
      have hR2 : Hid ((b = true ∨ x ≠ num) → RestOf num cws (j + 1) (rest ++ [x]) b) := fun h1 => rest_pass hRe.out hxj h1
      have hsrc : srcRep intS (fun _ => False) (wo.alloc (.cells #[.int .i64 x] 3)) (some ⟨wo.heap.size, 0, none⟩) [x] := srcRep.ints [x] rfl (by intro y hy; obtain rfl : y = x := (by simpa using hy); exact hxI)
      have hO2 := hO.alloc (.cells #[.int .i64 x] 3)
      have hbF : Below w2.heap.size w2 (wo.alloc (.cells #[.int .i64 x] 3)) := hb.alloc hso _
      have hln2 : (rest ++ [x]).length = rest.length + 1 := by simp
      have HLN := Lib.hid hln2
      clear hcq hxj hln2
      --CUT2
      by_cases hxn : b = false ∧ x = num
      · obtain ⟨rfl, rfl⟩ := hxn
        have HX := Lib.hid (hR1.out rfl rfl)
        clear hR1 hR2 hsrc hO2 hbF hRe
        go_wp2
        case roundEnd =>
          go_roundw
          case rel => exact ⟨j + 1, ra, rc, rest, true, rfl, rfl, by go_num, by omega, HX, by omega, hO, hb⟩
          case measure => simp [intOf] <;> omega
      have hor : b = true ∨ x ≠ num := by
        by_cases hb9 : b = true
        · exact .inl hb9
        · exact .inr fun h => hxn ⟨by simpa using hb9, h⟩
      have HX := Lib.hid (hR2.out hor)
      clear hR1 hR2 hRe hxn
      by_cases hxe : x = num
      case' neg => have hxe' : (x == num) = false := by rw [beq_eq_false_iff_ne]; exact hxe
      case' pos =>
        have hbt : b = true := hor.resolve_right (fun h => h hxe)
        subst hxe hbt
      all_goals
        clear hor
        go_wp2_with (at_builtin; go_must (refine wpList_appR (sh := intS) (base := w2.heap.size) (n := rest.length) (m := 1) rfl _ _ 26 rfl 3 i0 (.int .i64 0) 8 Try.underlying26 hi hz0 hz1 hz2 rfl (by decide) rfl hO2 rfl rfl hsrc (by simp only [maxLen]; omega) (by omega) hbF.size ?_); go_must (intro ra9 rc9 w9 hO9 hg9 hd9; have hb9 := hbF.trans (grown_below (B := w2.heap.size) hg9 (fun k hk => (hO2.lt k hk).1) hbF.size)))
        case roundEnd =>
          have hO9' := hO9
          rw [← HLN.out] at hO9'
          go_roundw
          case rel => exact ⟨j + 1, ra9, rc9, _, _, by rw [HLN.out], rfl, by go_num, by omega, HX, by rw [HLN.out]; omega, hO9', hb9⟩
          case measure => simp [intOf] <;> omega
    --CUT3
    obtain rfl : j = cws.length := by omega
    have b1 : ¬ ((cws.length : Nat) : Int) < (cws.length : Int) := by omega
    obtain ⟨hX1, hX2⟩ := rest_end hRe.out
    have hCo := hC2.under hb
    have hTo := hT2.under hb
    have hZo := hZ2.under hb
    have hBo := hB2.trans (hb.mono hB2.size)
    have hso2 : w1.heap.size + 1 ≤ wo.heap.size := by omega
    obtain ⟨c1, c2⟩ := hCo.cells
    obtain ⟨z1, z2⟩ := hZo.cells
    obtain ⟨t1, t2⟩ := hTo.cells
    have hcl := hCo.lt
    have hzl := hZo.lt
    have htl := hTo.lt
    cases b
    · have HE := Lib.hid (HE2.out (by first | trivial | rfl) (hX1 rfl))
      obtain ⟨G, FR⟩ := set9 hZo (fun b => b ≠ w.heap.size + 1 + 1) w.heap.size (fun h => h rfl) (by omega) (.int .i64 0) (.int .i64 0) (.slice none 0 0) (.slice none 0 0) (.int .i64 0) (.slice none 0 0) (.slice none 0 0) (.int .i64 0) (.slice none 0 0)
      obtain ⟨g1, g2⟩ := G.cells
      have hB9 := hBo.trans FR.below
      clear FR HE1 HE2 HE3 HTR hX1 hX2 hRe hO hb hCo hTo hZo
      go_wp2_with ((with_reducible refine bodyPost_ret (v := .tuple #[.agg #[.int .i64 0, .int .i64 0, .slice none 0 0, .slice none 0 0, .int .i64 0, .slice none 0 0, .slice none 0 0, .int .i64 0, .slice none 0 0], .slice none 0 0, .int .i64 6]) ?ra2 ?rb2 ?rc2); go_must (case ra2 => simp [results, Try.results14, go_sem, g1]); go_must (case rb2 => rfl); go_must (case rc2 => exact ⟨refOut.bad HE.out, hB9⟩))
    obtain ⟨i, hix, rfl⟩ := hX2 rfl
    have HE := Lib.hid (HE3.out (by first | trivial | rfl) i hix)
    clear HE1 HE2 HE3 HTR hX1 hX2 hRe hix
    generalize cws.eraseIdx i = rest at *
    have hC5 := (hCo.set 8 (.slice ra rest.length rc)).alloc (.cells #[.slice none 0 0] 44)
    simp only [List.setIfInBounds_toArray, List.set_cons_succ, List.set_cons_zero] at hC5
    have FR : Frm (fun b => b ≠ w.heap.size) w.heap.size wo (wo.setCell ⟨w.heap.size, 8, none⟩ (.slice ra rest.length rc)) := Frm.set (a := ⟨w.heap.size, 8, none⟩) (fun h => h rfl) (Nat.le_refl _) _
    have hba : Below (wo.setCell ⟨w.heap.size, 8, none⟩ (.slice ra rest.length rc)).heap.size (wo.setCell ⟨w.heap.size, 8, none⟩ (.slice ra rest.length rc)) ((wo.setCell ⟨w.heap.size, 8, none⟩ (.slice ra rest.length rc)).alloc (.cells #[.slice none 0 0] 44)) := (Below.refl _ _).alloc (Nat.le_refl _) _
    have hO5 : blockIs ((wo.setCell ⟨w.heap.size, 8, none⟩ (.slice ra rest.length rc)).alloc (.cells #[.slice none 0 0] 44)) wo.heap.size 44 #[.slice none 0 0] := blockIs.new (by simp)
    have hT5 := (FR.blk hTo (.inl (by omega))).under hba
    have hZ5 := (FR.blk hZo (.inl (by omega))).under hba
    have hn5 : planC _ (fun b => okc b ∧ b < w.heap.size) n0 n1 n2 cnow := planS.below (FR.rep' (planS.below (planS.anyOk hn (fun b hl h => ⟨h, hl⟩)) hBo) (fun b hb => .inl (by omega))) hba
    have hx5 : planC _ (fun b => okc b ∧ b < w.heap.size) x0 x1 x2 cnext := planS.below (FR.rep' (planS.below (planS.anyOk hx (fun b hl h => ⟨h, hl⟩)) hBo) (fun b hb => .inl (by omega))) hba
    have hw5 := (FR.row' (hO.row (ok' := fun b => w2.heap.size ≤ b) (fun _ h => h.elim) (fun k hk => (hO.lt k hk).1)) (fun b hb => .inl (by omega))).below hba
    have hB5 := hBo.trans (FR.below.trans (hba.mono (by simp; omega)))
    have hs5 : ((wo.setCell ⟨w.heap.size, 8, none⟩ (.slice ra rest.length rc)).alloc (.cells #[.slice none 0 0] 44)).heap.size = wo.heap.size + 1 := by simp
    clear FR hba hO hCo hTo hZo hb
    go_wp2_with fail
    --CUT4
    generalize (wo.setCell ⟨w.heap.size, 8, none⟩ (.slice ra rest.length rc)).alloc (.cells #[.slice none 0 0] 44) = w5 at *
    have hrl9 : rest.length ≤ 2000000000 := by omega
    refine (refBegin_c ⟨cst, cnow, cnext, cnum, rest⟩ t _ okt [] n0 n1 n2 x0 x1 x2 ra none rc 0 w5 w.heap.size wo.heap.size (wo.heap.size + 1) w.heap.size (fun b => okc b ∧ b < w.heap.size) (fun b hb => ⟨by omega, by omega, by omega⟩) (fun b => w2.heap.size ≤ b) (fun b hb => by omega) hC5 hn5 hx5 hw5 hO5 (oth.nil _ _ _ _ _) (topoS.below hT hB5) ht0 ht8 hst hnu s2 (by omega) (by omega) (by omega) (by omega) hrl9 (Nat.zero_le _) (Nat.le_refl _) (by omega)).mono ?_
    rintro e w6 ⟨rfl, m0, m1, m2, y0, y1, y2, va, vc, oa, oc, hC6, hn6, hx6, hv6, hO6, hU6, hst6, hnu6, hF6⟩
    generalize stepsOf ⟨cst, cnow, cnext, cnum, rest⟩ t = SR at *
    obtain ⟨⟨dst, dnow, dnext, dnum, dws⟩, so⟩ := SR
    simp only [List.nil_append] at hO6 hU6
    dsimp only at *
    have hT6 := hF6.blk hT5 (.inl ⟨by omega, by omega, by omega⟩)
    have hZ6 := hF6.blk hZ5 (.inl ⟨by omega, by omega, by omega⟩)
    have hB6 := hB5.trans hF6.below
    have hs6 := hF6.size
    have hr6 := hU6.row (ok' := fun b => wo.heap.size + 1 ≤ b) (fun b hb => hb.1) (fun k hk => (hU6.lt k hk).1)
    obtain ⟨lp0, lp1, lp2⟩ := planC.st (P := Try.prog) hn6
    obtain ⟨lq0, lq1, lq2⟩ := planC.st (P := Try.prog) hx6
    obtain ⟨lm0, lm1, lm2⟩ := planC.one hn6
    obtain ⟨ly0, ly1, ly2⟩ := planC.one hx6
    have hS4 : SO5 wo.heap.size w.heap.size (.slice oa so.length oc) #[.int .i64 dst, m0, m1, m2, y0, y1, y2, .int .i64 dnum, .slice va dws.length vc] w6 := SO5.of hO6 hC6
    have hS0 : SO5 wo.heap.size w.heap.size (.slice oa so.length oc) #[.int .i64 dst, m0, m1, m2, y0, y1, y2, .int .i64 dnum, .slice va dws.length vc] w6.drew := hS4
    clear hC5 hn5 hx5 hw5 hO5 hT5 hZ5 hB5 hF6 hU6
    go_wp2
    --CUT5
    refine wp_region_to (SO5 wo.heap.size w.heap.size (.slice oa so.length oc) #[.int .i64 dst, m0, m1, m2, y0, y1, y2, .int .i64 dnum, .slice va dws.length vc]) 99 (fun a0 a' w' => ∃ v49 v50, a' = puts a0 [(49, v49), (50, v50), (7, .slice oa so.length oc), (8, .int .i64 0)] ∧ blockIs w' (w.heap.size + 1 + 1) 32 #[.int .i64 dst, m0, m1, m2, y0, y1, y2, .int .i64 dnum, .slice va dws.length vc] ∧ Frm (fun b => b ≠ w.heap.size + 1 + 1) w.heap.size w6 w') (by kernel_rfl) ?_ ?_
    · intro Q' hR hQp
      have hb0 : Below w6.heap.size w6 w6.drew := by (repeat' (first | with_reducible exact Below.refl _ _ | with_reducible assumption | with_reducible refine Below.drew ?_ | with_reducible refine Below_drewN ?_ _ | with_reducible refine Below.alloc ?_ ?_ _ | with_reducible refine Below.setCell ?_ ?_ _ | omega | (simp; done) | (simp; omega)))
      have hS : SO5 wo.heap.size w.heap.size (.slice oa so.length oc) #[.int .i64 dst, m0, m1, m2, y0, y1, y2, .int .i64 dnum, .slice va dws.length vc] w6.drew := hS0
      generalize w6.drew = wa at *
      have hZa := hZ6.under hb0
      have hCa := hC6.under hb0
      have hOa := hO6.under hb0
      obtain ⟨z1, z2⟩ := hZa.cells
      have hzl := hZa.lt
      have hsa := hb0.size
      refine wpAnyK_take' (i := 0) _ rfl (by kernel_rfl) (fun _ _ _ h => hQp _ _ _ _ h) hS (yields_value (by kernel_rfl) (by intro w0 hw0; have hw1 := hw0; simp only [SO5] at hw1; first | (go_simp; done) | (go_simp; rfl))) ?_; simp only [Act.put, List.getElem_toArray, List.getElem_cons_succ, List.getElem_cons_zero, List.setIfInBounds_toArray, List.set_cons_succ, List.set_cons_zero]
      refine wpAnyK_take' (i := 1) _ rfl (by kernel_rfl) (fun _ _ _ h => hQp _ _ _ _ h) hS (yields_value (by kernel_rfl) (by intro w0 hw0; have hw1 := hw0; simp only [SO5] at hw1; first | (go_simp; done) | (go_simp; rfl))) ?_; simp only [Act.put, List.getElem_toArray, List.getElem_cons_succ, List.getElem_cons_zero, List.setIfInBounds_toArray, List.set_cons_succ, List.set_cons_zero]
      clear hS
      refine wpAnyK_call (i := 2) rfl (by kernel_rfl) (by kernel_rfl) fun K2 hK2 => ?_
      go_simp
      go_wp2_with fail
      obtain ⟨G, FR⟩ := set9 hZa (fun b => b ≠ w.heap.size + 1 + 1) w.heap.size (fun h => h rfl) (by omega) (.int .i64 dst) m0 m1 m2 y0 y1 y2 (.int .i64 dnum) (.slice va dws.length vc)
      have hS : _ := SO5.of (FR.blk hOa (.inl (by omega))) (FR.blk hCa (.inl (by omega)))
      refine hK2 _ _ (fun _ => hS) ?_
      clear hK2
      refine wpAnyK_take' (i := 3) _ rfl (by kernel_rfl) (fun _ _ _ h => hQp _ _ _ _ h) hS (yields_value (by kernel_rfl) (by intro w0 hw0; have hw1 := hw0; simp only [SO5] at hw1; first | (go_simp; done) | (go_simp; rfl))) ?_; simp only [Act.put, List.getElem_toArray, List.getElem_cons_succ, List.getElem_cons_zero, List.setIfInBounds_toArray, List.set_cons_succ, List.set_cons_zero]
      refine wpAnyK_take' (i := 4) _ rfl (by kernel_rfl) (fun _ _ _ h => hQp _ _ _ _ h) hS (yields_value (by kernel_rfl) (by intro w0 hw0; have hw1 := hw0; simp only [SO5] at hw1; first | (go_simp; done) | (go_simp; rfl))) ?_; simp only [Act.put, List.getElem_toArray, List.getElem_cons_succ, List.getElem_cons_zero, List.setIfInBounds_toArray, List.set_cons_succ, List.set_cons_zero]
      refine wpAnyK_done (by kernel_rfl) ?_ _
      refine hR _ _ ?_
      iterate 2 apply Exists.intro
      refine ⟨?_, ⟨G, (Frm.of hb0 (by omega)).trans FR⟩⟩
      simp only [puts, Act.put, List.setIfInBounds_toArray, List.set_cons_succ, List.set_cons_zero]
      rfl
    rintro a' w8 ⟨v49, v50, rfl, hb8⟩
    simp only [puts, Act.put, List.setIfInBounds_toArray, List.set_cons_succ, List.set_cons_zero]
    --CUT6
    obtain ⟨hZ9, FR9⟩ := hb8
    obtain ⟨g1, g2⟩ := hZ9.cells
    have hn9 := planS.anyOk (FR9.rep' hn6 (fun b hb => .inl (by omega))) (ok' := fun b => okc b ∨ w.heap.size ≤ b) (fun b _ hh => .inl hh.1)
    have hx9 := planS.anyOk (FR9.rep' hx6 (fun b hb => .inl (by omega))) (ok' := fun b => okc b ∨ w.heap.size ≤ b) (fun b _ hh => .inl hh.1)
    have hv9 := (FR9.row' hv6 (fun b hb => .inl (by omega))).anyOk (ok' := fun b => okc b ∨ w.heap.size ≤ b) (fun b _ hh => .inr (by omega))
    have hr9 := (FR9.row' hr6 (fun b hb => .inl (by omega))).anyOk (ok' := fun b => okc b ∨ w.heap.size ≤ b) (fun b _ hh => .inr (by omega))
    have hB9 := hB6.trans FR9.below
    have hk9 := ctlS.mk_ (c := ⟨dst, dnow, dnext, dnum, dws⟩) hst6 hnu6 hn9 hx9 hv9
    clear hn6 hx6 hv6 hr6 FR9 hZ6 hC6 hO6 hS0 hS4 hn9 hx9 hv9
    go_wp2_with ((with_reducible refine bodyPost_ret (v := .tuple #[.agg #[.int .i64 dst, m0, m1, m2, y0, y1, y2, .int .i64 dnum, .slice va dws.length vc], .slice oa so.length oc, .int .i64 0]) ?ra3 ?rb3 ?rc3); go_must (case ra3 => simp [results, Try.results14, go_sem, g1]); go_must (case rb3 => rfl); go_must (case rc3 => refine ⟨?_, hB9⟩; rw [HE.out]; exact ⟨_, oa, oc, rfl, hk9, hr9⟩))

end Go.Proofs.Ytagldmdeohenjaa

/-
  The walk of the document's Drop.
-/
set_option linter.unusedSimpArgs false
set_option linter.unusedVariables false
namespace Go.Proofs.Ytagldmdeohenjaa
open Go.RowKit Go.St

set_option maxRecDepth 100000 in
set_option maxHeartbeats 16000000 in
theorem refDrop_c (c : Ctl) (t : Topo) (cs ts : List Value) (okc okt : Nat → Prop) (w : World) (h : ctlS.rep okc w cs c) (ht : topoS.rep okt w ts t) (hsm : CtlSmall c) :
    Calls Try.prog 16 #[.agg cs.toArray, .agg ts.toArray] w fun e w' => refOut okc w.heap.size (ctlDrop c t) e w' ∧ Below w.heap.size w w' := by
  have hT := ht
  obtain ⟨n0, n1, n2, x0, x1, x2, qa, qc, rfl, hst, hnu, hn, hx, hw⟩ := ctlS.open_ h
  obtain ⟨la, lc, rfl, htn, htr⟩ := ht
  have HE1 : Hid ((topoWrong t).1 ≠ 0 → ctlDrop c t = (noCtl, [], (topoWrong t).1)) := fun h => by unfold ctlDrop; rw [if_pos h]
  have HE2 : Hid ((topoWrong t).1 = 0 → c.stage ≠ 3 → ctlDrop c t = (noCtl, [], 11)) := fun h h2 => by unfold ctlDrop; rw [if_neg (fun h3 => h3 h), if_pos h2]
  have HE3 : Hid ((topoWrong t).1 = 0 → c.stage = 3 → ∀ sr, tells (⟨4, c.now, c.next, c.num, c.waits⟩, []) (over (goneAt c.now) t.n.toNat) = sr → ctlDrop c t = ((stepsOf sr.1 t).1, sr.2 ++ (stepsOf sr.1 t).2, 0)) := fun h h2 sr h4 => by subst h4; unfold ctlDrop; rw [if_neg (fun h6 => h6 h), if_neg (fun h6 => h6 h2)]; rfl
  have HTR : Hid ((topoWrong t).1 = 0 → 0 ≤ t.n ∧ t.n ≤ 8) := fun h => by have := (topo_right h).1; omega
  generalize ctlDrop c t = R at *
  obtain ⟨s1, s2, s3, s4⟩ := hsm
  obtain ⟨cst, cnow, cnext, cnum, cws⟩ := c
  dsimp only at *
  obtain ⟨lx0, lx1, lx2⟩ := hx.one
  obtain ⟨ln0, ln1, ln2⟩ := hn.one
  have hB0 : Below w.heap.size w (((w.alloc (.cells #[.int .i64 cst, n0, n1, n2, x0, x1, x2, .int .i64 cnum, .slice qa cws.length qc] 32)).alloc (.cells #[.int .i64 t.n, .slice la t.links.length lc] 24)).alloc (.cells #[.int .i64 0, .int .i64 0, .slice none 0 0, .slice none 0 0, .int .i64 0, .slice none 0 0, .slice none 0 0, .int .i64 0, .slice none 0 0] 32)) := by (repeat' (first | with_reducible exact Below.refl _ _ | with_reducible assumption | with_reducible refine Below.drew ?_ | with_reducible refine Below_drewN ?_ _ | with_reducible refine Below.alloc ?_ ?_ _ | with_reducible refine Below.setCell ?_ ?_ _ | omega | (simp; done) | (simp; omega)))
  have hC0 : blockIs (((w.alloc (.cells #[.int .i64 cst, n0, n1, n2, x0, x1, x2, .int .i64 cnum, .slice qa cws.length qc] 32)).alloc (.cells #[.int .i64 t.n, .slice la t.links.length lc] 24)).alloc (.cells #[.int .i64 0, .int .i64 0, .slice none 0 0, .slice none 0 0, .int .i64 0, .slice none 0 0, .slice none 0 0, .int .i64 0, .slice none 0 0] 32)) w.heap.size 32 #[.int .i64 cst, n0, n1, n2, x0, x1, x2, .int .i64 cnum, .slice qa cws.length qc] := ((blockIs.new rfl).alloc _).alloc _
  have hT0 : blockIs (((w.alloc (.cells #[.int .i64 cst, n0, n1, n2, x0, x1, x2, .int .i64 cnum, .slice qa cws.length qc] 32)).alloc (.cells #[.int .i64 t.n, .slice la t.links.length lc] 24)).alloc (.cells #[.int .i64 0, .int .i64 0, .slice none 0 0, .slice none 0 0, .int .i64 0, .slice none 0 0, .slice none 0 0, .int .i64 0, .slice none 0 0] 32)) (w.heap.size + 1) 24 #[.int .i64 t.n, .slice la t.links.length lc] := (blockIs.new (by simp)).alloc _
  have hZ0 : blockIs (((w.alloc (.cells #[.int .i64 cst, n0, n1, n2, x0, x1, x2, .int .i64 cnum, .slice qa cws.length qc] 32)).alloc (.cells #[.int .i64 t.n, .slice la t.links.length lc] 24)).alloc (.cells #[.int .i64 0, .int .i64 0, .slice none 0 0, .slice none 0 0, .int .i64 0, .slice none 0 0, .slice none 0 0, .int .i64 0, .slice none 0 0] 32)) (w.heap.size + 1 + 1) 32 #[.int .i64 0, .int .i64 0, .slice none 0 0, .slice none 0 0, .int .i64 0, .slice none 0 0, .slice none 0 0, .int .i64 0, .slice none 0 0] := blockIs.new (by simp)
  go_enter Try.func16, Try.ntmps16
  go_wp2_with fail
  generalize (((w.alloc (.cells #[.int .i64 cst, n0, n1, n2, x0, x1, x2, .int .i64 cnum, .slice qa cws.length qc] 32)).alloc (.cells #[.int .i64 t.n, .slice la t.links.length lc] 24)).alloc (.cells #[.int .i64 0, .int .i64 0, .slice none 0 0, .slice none 0 0, .int .i64 0, .slice none 0 0, .slice none 0 0, .int .i64 0, .slice none 0 0] 32)) = w0 at *
  refine (refWrong_c t _ okt w0 (topoS.below hT hB0)).mono ?_
  rintro e w1 ⟨rfl, hb1⟩
  have hbx : Below w1.heap.size w1 (w1.alloc (.cells #[.int .i64 (topoWrong t).1, .int .i64 (topoWrong t).2] 66)) := by (repeat' (first | with_reducible exact Below.refl _ _ | with_reducible assumption | with_reducible refine Below.drew ?_ | with_reducible refine Below_drewN ?_ _ | with_reducible refine Below.alloc ?_ ?_ _ | with_reducible refine Below.setCell ?_ ?_ _ | omega | (simp; done) | (simp; omega)))
  have hB1 := hB0.trans (hb1.mono hB0.size)
  have hB2 := hB1.trans (hbx.mono hB1.size)
  have hC2 := (hC0.under hb1).under hbx
  have hT2 := (hT0.under hb1).under hbx
  have hZ2 := (hZ0.under hb1).under hbx
  have hF2 : blockIs (w1.alloc (.cells #[.int .i64 (topoWrong t).1, .int .i64 (topoWrong t).2] 66)) w1.heap.size 66 #[.int .i64 (topoWrong t).1, .int .i64 (topoWrong t).2] := blockIs.new rfl
  have hfz : w.heap.size + 1 + 1 < w1.heap.size := (hZ0.under hb1).lt
  have hs2 : (w1.alloc (.cells #[.int .i64 (topoWrong t).1, .int .i64 (topoWrong t).2] 66)).heap.size = w1.heap.size + 1 := by simp
  have hC1 := hC0.under hb1
  have hT1 := hT0.under hb1
  have hZ1 := hZ0.under hb1
  clear hb1 hbx hB0 hC0 hT0 hZ0
  generalize topoWrong t = tw at *
  obtain ⟨k1, k2⟩ := tw
  dsimp only at *
  by_cases h1 : k1 = 0
  case neg =>
    have HE := Lib.hid (HE1.out h1)
    have h1' : (k1 != 0) = true := by rw [bne_iff_ne]; exact h1
    clear HE1 HE2 HE3 HTR h1 hB1 hC1 hT1 hZ1
    obtain ⟨f1, f2⟩ := hF2.cells
    go_wp2
    generalize w1.alloc (.cells #[.int .i64 k1, .int .i64 k2] 66) = w2 at *
    generalize w1.heap.size = fb at *
    clear f1 f2
    have hS0 : SBf fb k1 w2.drew := hF2.cells.1 0
    refine wp_region_to (SBf fb k1) 99 (fun a0 a' w' => ∃ v15 v16 v17, a' = puts a0 [(15, v15), (16, v16), (17, v17), (5, .slice none 0 0), (6, .int .i64 k1)] ∧ blockIs w' (w.heap.size + 1 + 1) 32 #[.int .i64 0, .int .i64 0, .slice none 0 0, .slice none 0 0, .int .i64 0, .slice none 0 0, .slice none 0 0, .int .i64 0, .slice none 0 0] ∧ Below w.heap.size w w') (by kernel_rfl) ?_ ?_
    · intro Q' hR hQp
      have hb0 : Below w2.heap.size w2 w2.drew := by (repeat' (first | with_reducible exact Below.refl _ _ | with_reducible assumption | with_reducible refine Below.drew ?_ | with_reducible refine Below_drewN ?_ _ | with_reducible refine Below.alloc ?_ ?_ _ | with_reducible refine Below.setCell ?_ ?_ _ | omega | (simp; done) | (simp; omega)))
      have hS : SBf fb k1 w2.drew := hS0
      generalize w2.drew = wa at *
      have hZa := hZ2.under hb0
      have hFa := hF2.under hb0
      have hBa := hB2.trans (hb0.mono hB2.size)
      obtain ⟨z1, z2⟩ := hZa.cells
      have hzl := hZa.lt
      refine wpAnyK_take' (i := 0) _ rfl (by kernel_rfl) (fun _ _ _ h => hQp _ _ _ _ h) hS (yields_value (by kernel_rfl) (by intro w0 hw0; have hw1 := hw0; simp only [SBf] at hw1; first | (go_simp; done) | (go_simp; rfl))) ?_; simp only [Act.put, List.getElem_toArray, List.getElem_cons_succ, List.getElem_cons_zero, List.setIfInBounds_toArray, List.set_cons_succ, List.set_cons_zero]
      refine wpAnyK_take' (i := 1) _ rfl (by kernel_rfl) (fun _ _ _ h => hQp _ _ _ _ h) hS (yields_value (by kernel_rfl) (by intro w0 hw0; have hw1 := hw0; simp only [SBf] at hw1; first | (go_simp; done) | (go_simp; rfl))) ?_; simp only [Act.put, List.getElem_toArray, List.getElem_cons_succ, List.getElem_cons_zero, List.setIfInBounds_toArray, List.set_cons_succ, List.set_cons_zero]
      refine wpAnyK_take' (i := 2) _ rfl (by kernel_rfl) (fun _ _ _ h => hQp _ _ _ _ h) hS (yields_value (by kernel_rfl) (by intro w0 hw0; have hw1 := hw0; simp only [SBf] at hw1; first | (go_simp; done) | (go_simp; rfl))) ?_; simp only [Act.put, List.getElem_toArray, List.getElem_cons_succ, List.getElem_cons_zero, List.setIfInBounds_toArray, List.set_cons_succ, List.set_cons_zero]
      clear hS
      refine wpAnyK_call (i := 3) rfl (by kernel_rfl) (by kernel_rfl) fun K3 hK3 => ?_
      go_simp
      go_wp2_with fail
      obtain ⟨G, FR⟩ := set9 hZa (fun b => b ≠ w.heap.size + 1 + 1) w.heap.size (fun h => h rfl) (by omega) (.int .i64 0) (.int .i64 0) (.slice none 0 0) (.slice none 0 0) (.int .i64 0) (.slice none 0 0) (.slice none 0 0) (.int .i64 0) (.slice none 0 0)
      have hS : _ := (FR.blk hFa (.inl (by omega))).cells.1 0
      refine hK3 _ _ (fun _ => hS) ?_
      clear hK3
      refine wpAnyK_take' (i := 4) _ rfl (by kernel_rfl) (fun _ _ _ h => hQp _ _ _ _ h) hS (yields_value (by kernel_rfl) (by intro w0 hw0; have hw1 := hw0; simp only [SBf] at hw1; first | (go_simp; done) | (go_simp; rfl))) ?_; simp only [Act.put, List.getElem_toArray, List.getElem_cons_succ, List.getElem_cons_zero, List.setIfInBounds_toArray, List.set_cons_succ, List.set_cons_zero]
      refine wpAnyK_take' (i := 5) _ rfl (by kernel_rfl) (fun _ _ _ h => hQp _ _ _ _ h) hS (yields_value (by kernel_rfl) (by intro w0 hw0; have hw1 := hw0; simp only [SBf] at hw1; first | (go_simp; done) | (go_simp; rfl))) ?_; simp only [Act.put, List.getElem_toArray, List.getElem_cons_succ, List.getElem_cons_zero, List.setIfInBounds_toArray, List.set_cons_succ, List.set_cons_zero]
      refine wpAnyK_done (by kernel_rfl) ?_ _
      refine hR _ _ ?_
      iterate 3 apply Exists.intro
      refine ⟨?_, ⟨G, hBa.trans FR.below⟩⟩
      simp only [puts, Act.put, List.setIfInBounds_toArray, List.set_cons_succ, List.set_cons_zero]
      rfl
    rintro a' w8 ⟨v15, v16, v17, rfl, hb8⟩
    simp only [puts, Act.put, List.setIfInBounds_toArray, List.set_cons_succ, List.set_cons_zero]
    obtain ⟨hZ9, hB9⟩ := hb8
    obtain ⟨g1, g2⟩ := hZ9.cells
    go_wp2_with ((with_reducible refine bodyPost_ret (v := .tuple #[.agg #[.int .i64 0, .int .i64 0, .slice none 0 0, .slice none 0 0, .int .i64 0, .slice none 0 0, .slice none 0 0, .int .i64 0, .slice none 0 0], .slice none 0 0, .int .i64 k1]) ?ra1 ?rb1 ?rc1); go_must (case ra1 => simp [results, Try.results16, go_sem, g1]); go_must (case rb1 => rfl); go_must (case rc1 => exact ⟨refOut.bad HE.out, hB9⟩))
  subst h1
  obtain ⟨ht0, ht8⟩ := HTR.out (by first | trivial | rfl)
  obtain ⟨c1, c2⟩ := hC1.cells
  have hcl1 := hC1.lt
  by_cases hs3 : cst = 3
  case neg =>
    have HE := Lib.hid (HE2.out (by first | trivial | rfl) hs3)
    have hs3' : (cst != 3) = true := by rw [bne_iff_ne]; exact hs3
    clear HE1 HE2 HE3 HTR hs3
    obtain ⟨z1, z2⟩ := hZ1.cells
    have hzl := hZ1.lt
    obtain ⟨G0, FR⟩ := set9 hZ1 (fun b => b ≠ w.heap.size + 1 + 1) w.heap.size (fun h => h rfl) (by omega) (.int .i64 0) (.int .i64 0) (.slice none 0 0) (.slice none 0 0) (.int .i64 0) (.slice none 0 0) (.slice none 0 0) (.int .i64 0) (.slice none 0 0)
    have G := G0.alloc (.cells #[.int .i64 0, .int .i64 k2] 66)
    obtain ⟨g1, g2⟩ := G.cells
    have hB9 := (hB1.trans FR.below).alloc (hB1.trans FR.below).size (.cells #[.int .i64 0, .int .i64 k2] 66)
    clear FR
    go_wp2_with ((with_reducible refine bodyPost_ret (v := .tuple #[.agg #[.int .i64 0, .int .i64 0, .slice none 0 0, .slice none 0 0, .int .i64 0, .slice none 0 0, .slice none 0 0, .int .i64 0, .slice none 0 0], .slice none 0 0, .int .i64 11]) ?ra2 ?rb2 ?rc2); go_must (case ra2 => simp [results, Try.results16, go_sem, g1]); go_must (case rb2 => rfl); go_must (case rc2 => exact ⟨refOut.bad HE.out, hB9⟩))
  subst hs3
  --CUT1
  have HE := Lib.hid (HE3.out (by first | trivial | rfl) rfl)
  clear HE1 HE2 HE3 HTR
  obtain ⟨g1, gc, g2, pc, rfl, rfl, rfl, hnv, _, _⟩ := hn.parts
  have FR : Frm (fun b => b ≠ w.heap.size) w.heap.size w1 (w1.setCell ⟨w.heap.size, 0, none⟩ (.int .i64 4)) := Frm.set (a := ⟨w.heap.size, 0, none⟩) (fun h => h rfl) (Nat.le_refl _) _
  have hba : Below (w1.setCell ⟨w.heap.size, 0, none⟩ (.int .i64 4)).heap.size (w1.setCell ⟨w.heap.size, 0, none⟩ (.int .i64 4)) (((w1.setCell ⟨w.heap.size, 0, none⟩ (.int .i64 4)).alloc (.cells #[.int .i64 0, .int .i64 k2] 66)).alloc (.cells #[.slice none 0 0] 44)) := by (repeat' (first | with_reducible exact Below.refl _ _ | with_reducible assumption | with_reducible refine Below.drew ?_ | with_reducible refine Below_drewN ?_ _ | with_reducible refine Below.alloc ?_ ?_ _ | with_reducible refine Below.setCell ?_ ?_ _ | omega | (simp; done) | (simp; omega)))
  have hC5 := (hC1.set 0 (.int .i64 4)).under hba
  simp only [List.setIfInBounds_toArray, List.set_cons_zero] at hC5
  have hO5 : blockIs (((w1.setCell ⟨w.heap.size, 0, none⟩ (.int .i64 4)).alloc (.cells #[.int .i64 0, .int .i64 k2] 66)).alloc (.cells #[.slice none 0 0] 44)) (w1.heap.size + 1) 44 #[.slice none 0 0] := blockIs.new (by simp)
  have hT5 := (FR.blk hT1 (.inl (by omega))).under hba
  have hZ5 := (FR.blk hZ1 (.inl (by omega))).under hba
  have hn5 : planC _ (fun b => okc b ∧ b < w.heap.size) (.int .i64 cnow.ver) (.slice g1 cnow.flows.length gc) (.slice g2 cnow.paths.length pc) cnow := planS.below (FR.rep' (planS.below (planS.anyOk hn (fun b hl h => ⟨h, hl⟩)) hB1) (fun b hb => .inl (by omega))) hba
  have hx5 : planC _ (fun b => okc b ∧ b < w.heap.size) x0 x1 x2 cnext := planS.below (FR.rep' (planS.below (planS.anyOk hx (fun b hl h => ⟨h, hl⟩)) hB1) (fun b hb => .inl (by omega))) hba
  have hw5 := (FR.row' ((hw.anyOk (ok' := fun b => okc b ∧ b < w.heap.size) (fun b hl h => ⟨h, hl⟩)).below hB1) (fun b hb => .inl (by omega))).below hba
  have hB5 := hB1.trans (FR.below.trans (hba.mono (by simp; omega)))
  have hs5 : (((w1.setCell ⟨w.heap.size, 0, none⟩ (.int .i64 4)).alloc (.cells #[.int .i64 0, .int .i64 k2] 66)).alloc (.cells #[.slice none 0 0] 44)).heap.size = w1.heap.size + 2 := by simp
  have hU5 : ownR toS 85 (oth (w1.heap.size + 2) (((w1.setCell ⟨w.heap.size, 0, none⟩ (.int .i64 4)).alloc (.cells #[.int .i64 0, .int .i64 k2] 66)).alloc (.cells #[.slice none 0 0] 44)) none) (w1.heap.size + 2) (((w1.setCell ⟨w.heap.size, 0, none⟩ (.int .i64 4)).alloc (.cells #[.int .i64 0, .int .i64 k2] 66)).alloc (.cells #[.slice none 0 0] 44)) none 0 0 [] := oth.nil _ _ _ _ _
  have hS0 : Hid (tells (⟨4, cnow, cnext, cnum, cws⟩, []) (over (goneAt cnow) 0) = (⟨4, cnow, cnext, cnum, cws⟩, [])) := rfl
  clear FR hba hC1 hT1 hZ1 hC2 hT2 hZ2 hF2
  go_wp2
  --CUT2
  clear c1 c2
  generalize (((w1.setCell ⟨w.heap.size, 0, none⟩ (.int .i64 4)).alloc (.cells #[.int .i64 0, .int .i64 k2] 66)).alloc (.cells #[.slice none 0 0] 44)) = w5 at *
  have hs0 : w.heap.size < w1.heap.size := hcl1
  have hn8 : t.n.toNat ≤ 8 := by omega
  go_loopw [9] (fun sv wr => ∃ (s : Nat) (num : Int) (ws : List Int) (o2 : List To) (va : Option Addr) (vc : Nat) (oa : Option Addr) (oc : Nat), sv = .int .i64 s ∧ s ≤ t.n.toNat ∧ Hid (tells (⟨4, cnow, cnext, cnum, cws⟩, []) (over (goneAt cnow) s) = (⟨4, cnow, cnext, num, ws⟩, o2)) ∧ ws.length ≤ cws.length + s ∧ o2.length ≤ s ∧ I64 num ∧
      blockIs wr w.heap.size 32 #[.int .i64 4, .int .i64 cnow.ver, .slice g1 cnow.flows.length gc, .slice g2 cnow.paths.length pc, x0, x1, x2, .int .i64 num, .slice va ws.length vc] ∧ rowRep intS (fun b => (okc b ∧ b < w.heap.size) ∨ w1.heap.size + 2 ≤ b) wr va vc ws ∧ blockIs wr (w1.heap.size + 1) 44 #[.slice oa o2.length oc] ∧ ownR toS 85 (oth (w1.heap.size + 2) wr oa) (w1.heap.size + 2) wr oa o2.length oc o2 ∧ Frm (keptS w.heap.size (w1.heap.size + 1) (w1.heap.size + 2)) w.heap.size w5 wr) (fun sv _ => t.n.toNat - (intOf sv).toNat)
  case atStart => exact ⟨0, cnum, cws, [], qa, qc, none, 0, rfl, Nat.zero_le _, hS0, by omega, Nat.le_refl _, hnu, hC5, hw5.anyOk (fun b _ h => .inl h), hO5, hU5, Frm.refl _ _ _⟩
  case round =>
    clear hS0 hC5 hw5 hO5 hU5
    obtain ⟨s, num, ws, o2, va, vc, oa, oc, rfl, hs, hS, hwl2, hol2, hkn, hC, hV, hO, hU, hF⟩ := hrel
    rename World => wo
    have hs6 := hF.size
    have hTb := hF.blk hT5 (.inl ⟨by omega, by omega, by omega⟩)
    have hno := hF.rep' hn5 (fun b hb => .inl ⟨by omega, by omega, by omega⟩)
    have hcl := hC.lt
    have hTl := hTb.lt
    have hOl := hO.lt
    obtain ⟨c1, c2⟩ := hC.cells
    obtain ⟨t1, t2⟩ := hTb.cells
    by_cases hsn : s < t.n.toNat
    · have b1 : (s : Int) < t.n := by omega
      have hsI : I64 (s : Int) := ⟨by omega, by omega⟩
      have hRu := refRules_c cnow (s : Int) _ _ wo hno (Nat.le_trans (s4 s) (by decide)) (by have := s1.pts; omega)
      have HRu := Lib.hid hRu
      have HSN : Hid (rulesAt cnow (s : Int) = [] → tells (⟨4, cnow, cnext, cnum, cws⟩, []) (over (goneAt cnow) (s + 1)) = (⟨4, cnow, cnext, num, ws⟩, o2)) := fun h => by
        rw [tells_over, hS.out]
        have e : goneAt cnow (s : Int) = [] := if_pos h
        rw [e, tells_nil]
      have HSY : Hid (rulesAt cnow (s : Int) ≠ [] → tells (⟨4, cnow, cnext, cnum, cws⟩, []) (over (goneAt cnow) (s + 1)) = (⟨4, cnow, cnext, up num, ws ++ [up num]⟩, o2 ++ [⟨s, ⟨3, up num, cnow.ver, [], []⟩⟩])) := fun h => by
        rw [tells_over, hS.out]
        have e : goneAt cnow (s : Int) = [⟨s, ⟨3, 0, cnow.ver, [], []⟩⟩] := if_neg h
        rw [e, tells_cons, tells_nil]
        rfl
      generalize rulesAt cnow (s : Int) = RI at *
      clear hRu hS
      go_wp2_with fail
      refine HRu.out.mono ?_
      rintro e wk ⟨ra, rc, rfl, hri, hbk⟩
      have hCk := hC.under hbk
      have hOk := hO.under hbk
      have hVk := hV.below hbk
      have hUk := oth.below hU hbk
      have hFk := hF.trans (Frm.of hbk (by omega))
      have hsk := hbk.size
      have hrx := hri.len_le
      clear HRu hri hbk hC hO hV hU hF c1 c2 t1 t2 hTb hno
      obtain ⟨c1, c2⟩ := hCk.cells
      have hck := hCk.lt
      by_cases hz : RI = []
      · subst hz
        have HE1 := Lib.hid (HSN.out rfl)
        clear HSN HSY
        go_wp2
        case roundEnd =>
          go_roundw
          case rel => exact ⟨s + 1, num, ws, o2, va, vc, oa, oc, by go_num, by omega, HE1, by omega, by omega, hkn, hCk, hVk, hOk, hUk, hFk⟩
          case measure => simp [intOf] <;> omega
      have HE1 := Lib.hid (HSY.out hz)
      have hl1 : decide ((RI.length : Int) > 0) = true := by rw [decide_eq_true_iff]; have := List.length_pos_iff.2 hz; omega
      have hl2 : (0 : Int) < (RI.length : Int) := by have := List.length_pos_iff.2 hz; omega
      have hl3 : 0 < RI.length := List.length_pos_iff.2 hz
      have hord : orderS.rep (fun q => w1.heap.size + 2 ≤ q ∧ blk oa ≠ some q) wk [.int .i64 3, .int .i64 0, .int .i64 cnow.ver, .slice none 0 0, .slice none 0 0] ⟨3, 0, cnow.ver, [], []⟩ :=
        ⟨none, 0, none, 0, rfl, show I64 3 from I64.small (by decide) (by decide), show I64 0 from I64.small (by decide) (by decide), hnv, rowRep.nil _ _ _ _, rowRep.nil _ _ _ _⟩
      have hTell := refTell_c 4 num (.int .i64 cnow.ver) (.slice g1 cnow.flows.length gc) (.slice g2 cnow.paths.length pc) x0 x1 x2 ws o2 s ⟨3, 0, cnow.ver, [], []⟩ _ wk w.heap.size (w1.heap.size + 1) (w1.heap.size + 2) w.heap.size va oa vc oc hCk (hVk.anyOk (fun b _ h => by omega)) hOk hUk hord hsI (by omega) (by omega) (by omega) (by omega) (by omega) (by omega) (Nat.le_refl _) (by omega)
      have HTL := Lib.hid hTell
      have hUlo : ∀ q, blk oa = some q → w1.heap.size + 2 ≤ q := fun q hq => (hUk.lt q hq).1
      have HO9 : Hid ((o2 ++ [(⟨s, ⟨3, up num, cnow.ver, [], []⟩⟩ : To)]).length = o2.length + 1) := by show _ = _; simp
      have HW9 : Hid ((ws ++ [up num]).length = ws.length + 1) := by show _ = _; simp
      clear hTell hord HSN HSY hz
      go_wp2_with fail
      refine HTL.out.mono ?_
      rintro e w9 ⟨rfl, va9, vc9, oa9, oc9, hC9, hV9, hO9, hU9, hF9⟩
      have hFZ := hFk.trans (hF9.weak (V := keptS w.heap.size (w1.heap.size + 1) (w1.heap.size + 2)) (fun q _ h => .inl ⟨h.1, h.2.1, fun e => by have h1 := hUlo q e; have h2 := h.2.2; omega⟩) (Nat.le_refl _))
      have hV9' := hV9.anyOk (ok' := fun b => (okc b ∧ b < w.heap.size) ∨ w1.heap.size + 2 ≤ b) (fun q _ h => .inr (by omega))
      rw [← HW9.out] at hC9
      rw [← HO9.out] at hO9 hU9
      have hn9 := up_i64 num
      have hw9 : (ws ++ [up num]).length ≤ cws.length + (s + 1) := by rw [HW9.out]; omega
      have ho9 : (o2 ++ [(⟨s, ⟨3, up num, cnow.ver, [], []⟩⟩ : To)]).length ≤ s + 1 := by rw [HO9.out]; omega
      clear c1 c2 HTL
      go_wp2
      case roundEnd =>
        go_roundw
        case rel => exact ⟨s + 1, up num, ws ++ [up num], _, va9, vc9, oa9, oc9, by go_num, by omega, HE1, hw9, ho9, hn9, hC9, hV9', hO9, hU9, hFZ⟩
        case measure => simp [intOf] <;> omega
    --CUT3
    obtain rfl : s = t.n.toNat := by omega
    have b1 : ¬ ((t.n.toNat : Nat) : Int) < t.n := by omega
    have hEX := HE.out _ hS.out
    have HX := Lib.hid hEX
    have hxo := hF.rep' hx5 (fun b hb => .inl ⟨by omega, by omega, by omega⟩)
    have hZo := hF.blk hZ5 (.inl ⟨by omega, by omega, by omega⟩)
    have hBo := hB5.trans hF.below
    clear hEX HE hS hF hT5 hZ5 hn5 hx5 hB5
    go_wp2_with fail
    have hrl9 : ws.length ≤ 2000000000 := by omega
    refine (refBegin_c ⟨4, cnow, cnext, num, ws⟩ t _ okt o2 _ _ _ x0 x1 x2 va oa vc oc wo w.heap.size (w1.heap.size + 1) (w1.heap.size + 2) w.heap.size (fun b => okc b ∧ b < w.heap.size) (fun b hb => ⟨by omega, by omega, by omega⟩) (fun b => (okc b ∧ b < w.heap.size) ∨ w1.heap.size + 2 ≤ b) (fun b hb => by omega) hC hno hxo hV hO hU (topoS.below hT hBo) ht0 ht8 (show I64 4 from I64.small (by decide) (by decide)) hkn s2 (by omega) (by omega) (by omega) (by omega) hrl9 (by omega) (Nat.le_refl _) (by omega)).mono ?_
    rintro e w6 ⟨rfl, m0, m1, m2, y0, y1, y2, va6, vc6, oa6, oc6, hC6, hn6, hx6, hv6, hO6, hU6, hst6, hnu6, hF6⟩
    generalize stepsOf ⟨4, cnow, cnext, num, ws⟩ t = SR at *
    obtain ⟨⟨dst, dnow, dnext, dnum, dws⟩, so⟩ := SR
    dsimp only at *
    generalize o2 ++ so = SO at *
    have hZ6 := hF6.blk hZo (.inl ⟨by omega, by omega, by omega⟩)
    have hB6 := hBo.trans hF6.below
    have hs6 := hF6.size
    have hr6 := hU6.row (ok' := fun b => w1.heap.size + 2 ≤ b) (fun b hb => hb.1) (fun k hk => (hU6.lt k hk).1)
    obtain ⟨lp0, lp1, lp2⟩ := planC.st (P := Try.prog) hn6
    obtain ⟨lq0, lq1, lq2⟩ := planC.st (P := Try.prog) hx6
    obtain ⟨lm0, lm1, lm2⟩ := planC.one hn6
    obtain ⟨ly0, ly1, ly2⟩ := planC.one hx6
    have hS4 : SO5 (w1.heap.size + 1) w.heap.size (.slice oa6 SO.length oc6) #[.int .i64 dst, m0, m1, m2, y0, y1, y2, .int .i64 dnum, .slice va6 dws.length vc6] w6 := SO5.of hO6 hC6
    have hS0 : SO5 (w1.heap.size + 1) w.heap.size (.slice oa6 SO.length oc6) #[.int .i64 dst, m0, m1, m2, y0, y1, y2, .int .i64 dnum, .slice va6 dws.length vc6] w6.drew := hS4
    clear hC hO hV hU hno hxo hZo hBo hF6 hU6 c1 c2 t1 t2 hTb
    go_wp2
    --CUT5
    refine wp_region_to (SO5 (w1.heap.size + 1) w.heap.size (.slice oa6 SO.length oc6) #[.int .i64 dst, m0, m1, m2, y0, y1, y2, .int .i64 dnum, .slice va6 dws.length vc6]) 99 (fun a0 a' w' => ∃ v43 v44, a' = puts a0 [(43, v43), (44, v44), (5, .slice oa6 SO.length oc6), (6, .int .i64 0)] ∧ blockIs w' (w.heap.size + 1 + 1) 32 #[.int .i64 dst, m0, m1, m2, y0, y1, y2, .int .i64 dnum, .slice va6 dws.length vc6] ∧ Frm (fun b => b ≠ w.heap.size + 1 + 1) w.heap.size w6 w') (by kernel_rfl) ?_ ?_
    · intro Q' hR hQp
      have hb0 : Below w6.heap.size w6 w6.drew := by (repeat' (first | with_reducible exact Below.refl _ _ | with_reducible assumption | with_reducible refine Below.drew ?_ | with_reducible refine Below_drewN ?_ _ | with_reducible refine Below.alloc ?_ ?_ _ | with_reducible refine Below.setCell ?_ ?_ _ | omega | (simp; done) | (simp; omega)))
      have hS : SO5 (w1.heap.size + 1) w.heap.size (.slice oa6 SO.length oc6) #[.int .i64 dst, m0, m1, m2, y0, y1, y2, .int .i64 dnum, .slice va6 dws.length vc6] w6.drew := hS0
      generalize w6.drew = wa at *
      have hZa := hZ6.under hb0
      have hCa := hC6.under hb0
      have hOa := hO6.under hb0
      obtain ⟨z1, z2⟩ := hZa.cells
      have hzl := hZa.lt
      have hsa := hb0.size
      refine wpAnyK_take' (i := 0) _ rfl (by kernel_rfl) (fun _ _ _ h => hQp _ _ _ _ h) hS (yields_value (by kernel_rfl) (by intro w0 hw0; have hw1 := hw0; simp only [SO5] at hw1; first | (go_simp; done) | (go_simp; rfl))) ?_; simp only [Act.put, List.getElem_toArray, List.getElem_cons_succ, List.getElem_cons_zero, List.setIfInBounds_toArray, List.set_cons_succ, List.set_cons_zero]
      refine wpAnyK_take' (i := 1) _ rfl (by kernel_rfl) (fun _ _ _ h => hQp _ _ _ _ h) hS (yields_value (by kernel_rfl) (by intro w0 hw0; have hw1 := hw0; simp only [SO5] at hw1; first | (go_simp; done) | (go_simp; rfl))) ?_; simp only [Act.put, List.getElem_toArray, List.getElem_cons_succ, List.getElem_cons_zero, List.setIfInBounds_toArray, List.set_cons_succ, List.set_cons_zero]
      clear hS
      refine wpAnyK_call (i := 2) rfl (by kernel_rfl) (by kernel_rfl) fun K2 hK2 => ?_
      go_simp
      go_wp2_with fail
      obtain ⟨G, FR⟩ := set9 hZa (fun b => b ≠ w.heap.size + 1 + 1) w.heap.size (fun h => h rfl) (by omega) (.int .i64 dst) m0 m1 m2 y0 y1 y2 (.int .i64 dnum) (.slice va6 dws.length vc6)
      have hS : _ := SO5.of (FR.blk hOa (.inl (by omega))) (FR.blk hCa (.inl (by omega)))
      refine hK2 _ _ (fun _ => hS) ?_
      clear hK2
      refine wpAnyK_take' (i := 3) _ rfl (by kernel_rfl) (fun _ _ _ h => hQp _ _ _ _ h) hS (yields_value (by kernel_rfl) (by intro w0 hw0; have hw1 := hw0; simp only [SO5] at hw1; first | (go_simp; done) | (go_simp; rfl))) ?_; simp only [Act.put, List.getElem_toArray, List.getElem_cons_succ, List.getElem_cons_zero, List.setIfInBounds_toArray, List.set_cons_succ, List.set_cons_zero]
      refine wpAnyK_take' (i := 4) _ rfl (by kernel_rfl) (fun _ _ _ h => hQp _ _ _ _ h) hS (yields_value (by kernel_rfl) (by intro w0 hw0; have hw1 := hw0; simp only [SO5] at hw1; first | (go_simp; done) | (go_simp; rfl))) ?_; simp only [Act.put, List.getElem_toArray, List.getElem_cons_succ, List.getElem_cons_zero, List.setIfInBounds_toArray, List.set_cons_succ, List.set_cons_zero]
      refine wpAnyK_done (by kernel_rfl) ?_ _
      refine hR _ _ ?_
      iterate 2 apply Exists.intro
      refine ⟨?_, ⟨G, (Frm.of hb0 (by omega)).trans FR⟩⟩
      simp only [puts, Act.put, List.setIfInBounds_toArray, List.set_cons_succ, List.set_cons_zero]
      rfl
    rintro a' w8 ⟨v43, v44, rfl, hb8⟩
    simp only [puts, Act.put, List.setIfInBounds_toArray, List.set_cons_succ, List.set_cons_zero]
    --CUT6
    obtain ⟨hZ9, FR9⟩ := hb8
    obtain ⟨z1, z2⟩ := hZ9.cells
    have hn9 := planS.anyOk (FR9.rep' hn6 (fun b hb => .inl (by omega))) (ok' := fun b => okc b ∨ w.heap.size ≤ b) (fun b _ hh => .inl hh.1)
    have hx9 := planS.anyOk (FR9.rep' hx6 (fun b hb => .inl (by omega))) (ok' := fun b => okc b ∨ w.heap.size ≤ b) (fun b _ hh => .inl hh.1)
    have hv9 := (FR9.row' hv6 (fun b hb => .inl (by omega))).anyOk (ok' := fun b => okc b ∨ w.heap.size ≤ b) (fun b _ hh => by rcases hh with (hh | hh) | hh; exact .inl hh.1; exact .inr (by omega); exact .inr (by omega))
    have hr9 := (FR9.row' hr6 (fun b hb => .inl (by omega))).anyOk (ok' := fun b => okc b ∨ w.heap.size ≤ b) (fun b _ hh => .inr (by omega))
    have hB9 := hB6.trans FR9.below
    have hk9 := ctlS.mk_ (c := ⟨dst, dnow, dnext, dnum, dws⟩) hst6 hnu6 hn9 hx9 hv9
    clear hn6 hx6 hv6 hr6 FR9 hZ6 hC6 hO6 hS0 hS4 hn9 hx9 hv9
    go_wp2_with ((with_reducible refine bodyPost_ret (v := .tuple #[.agg #[.int .i64 dst, m0, m1, m2, y0, y1, y2, .int .i64 dnum, .slice va6 dws.length vc6], .slice oa6 SO.length oc6, .int .i64 0]) ?ra3 ?rb3 ?rc3); go_must (case ra3 => simp [results, Try.results16, go_sem, z1]); go_must (case rb3 => rfl); go_must (case rc3 => refine ⟨?_, hB9⟩; rw [HX.out]; exact ⟨_, oa6, oc6, rfl, hk9, hr9⟩))

end Go.Proofs.Ytagldmdeohenjaa

/-
  The walk of the document's Ask.
-/
set_option linter.unusedSimpArgs false
set_option linter.unusedVariables false
namespace Go.Proofs.Ytagldmdeohenjaa
open Go.RowKit Go.St

set_option maxRecDepth 100000 in
set_option maxHeartbeats 16000000 in
theorem refAsk_c (c : Ctl) (t : Topo) (l : List Flow) (cs ts : List Value) (okc okt okl : Nat → Prop) (fa : Option Addr) (fc : Nat) (w : World) (h : ctlS.rep okc w cs c) (ht : topoS.rep okt w ts t) (hl : rowRep flowS okl w fa fc l) (hsm : CtlSmall c) :
    Calls Try.prog 10 #[.agg cs.toArray, .agg ts.toArray, .slice fa l.length fc] w fun e w' => refOut (fun b => okc b ∨ okl b) w.heap.size (ctlAsk c t l) e w' ∧ Below w.heap.size w w' := by
  have hT := ht
  obtain ⟨n0, n1, n2, x0, x1, x2, qa, qc, rfl, hst, hnu, hn, hx, hw⟩ := ctlS.open_ h
  obtain ⟨la, lc, rfl, htn, htr⟩ := ht
  have hlx := hl.len_le
  have HE1 : Hid (c.stage ≠ 0 → ctlAsk c t l = (noCtl, [], 11)) := fun h => by unfold ctlAsk; rw [if_pos h]
  have HE2 : Hid (c.stage = 0 → (planOf t (up c.now.ver) l).2.1 ≠ 0 → ctlAsk c t l = (noCtl, [], (planOf t (up c.now.ver) l).2.1)) := fun h h2 => by unfold ctlAsk; rw [if_neg (fun h3 => h3 h), if_pos h2]
  have HE3 : Hid (c.stage = 0 → (planOf t (up c.now.ver) l).2.1 = 0 → fullTo c.now (planOf t (up c.now.ver) l).1 t.n.toNat = true → ctlAsk c t l = (noCtl, [], 10)) := fun h h2 h3 => by unfold ctlAsk; rw [if_neg (fun h4 => h4 h), if_neg (fun h4 => h4 h2), if_pos h3]
  have HE4 : Hid (c.stage = 0 → (planOf t (up c.now.ver) l).2.1 = 0 → fullTo c.now (planOf t (up c.now.ver) l).1 t.n.toNat = false → ∀ sr, tells (⟨1, c.now, (planOf t (up c.now.ver) l).1, c.num, c.waits⟩, []) (over (addAt (planOf t (up c.now.ver) l).1) t.n.toNat) = sr → ctlAsk c t l = ((stepsOf sr.1 t).1, sr.2 ++ (stepsOf sr.1 t).2, 0)) := fun h h2 h3 sr h4 => by
    subst h4
    unfold ctlAsk
    rw [if_neg (fun h5 => h5 h), if_neg (fun h5 => h5 h2), if_neg (by rw [h3]; decide)]
    rfl
  have HPK : Hid ((planOf t (up c.now.ver) l).2.1 = 0 → PlanOk t (up c.now.ver) l (planOf t (up c.now.ver) l).1) := plan_ok
  generalize ctlAsk c t l = R at *
  obtain ⟨s1, s2, s3, s4⟩ := hsm
  obtain ⟨a1, ac, a2, pc, rfl, rfl, rfl, hnv, _, _⟩ := hn.parts
  obtain ⟨cst, cnow, cnext, cnum, cws⟩ := c
  dsimp only at *
  obtain ⟨lx0, lx1, lx2⟩ := hx.one
  have hB0 : Below w.heap.size w (((w.alloc (.cells #[.int .i64 cst, .int .i64 cnow.ver, .slice a1 cnow.flows.length ac, .slice a2 cnow.paths.length pc, x0, x1, x2, .int .i64 cnum, .slice qa cws.length qc] 32)).alloc (.cells #[.int .i64 t.n, .slice la t.links.length lc] 24)).alloc (.cells #[.int .i64 0, .int .i64 0, .slice none 0 0, .slice none 0 0, .int .i64 0, .slice none 0 0, .slice none 0 0, .int .i64 0, .slice none 0 0] 32)) := by (repeat' (first | with_reducible exact Below.refl _ _ | with_reducible assumption | with_reducible refine Below.drew ?_ | with_reducible refine Below_drewN ?_ _ | with_reducible refine Below.alloc ?_ ?_ _ | with_reducible refine Below.setCell ?_ ?_ _ | omega | (simp; done) | (simp; omega)))
  have hC0 : blockIs (((w.alloc (.cells #[.int .i64 cst, .int .i64 cnow.ver, .slice a1 cnow.flows.length ac, .slice a2 cnow.paths.length pc, x0, x1, x2, .int .i64 cnum, .slice qa cws.length qc] 32)).alloc (.cells #[.int .i64 t.n, .slice la t.links.length lc] 24)).alloc (.cells #[.int .i64 0, .int .i64 0, .slice none 0 0, .slice none 0 0, .int .i64 0, .slice none 0 0, .slice none 0 0, .int .i64 0, .slice none 0 0] 32)) w.heap.size 32 #[.int .i64 cst, .int .i64 cnow.ver, .slice a1 cnow.flows.length ac, .slice a2 cnow.paths.length pc, x0, x1, x2, .int .i64 cnum, .slice qa cws.length qc] := ((blockIs.new rfl).alloc _).alloc _
  have hT0 : blockIs (((w.alloc (.cells #[.int .i64 cst, .int .i64 cnow.ver, .slice a1 cnow.flows.length ac, .slice a2 cnow.paths.length pc, x0, x1, x2, .int .i64 cnum, .slice qa cws.length qc] 32)).alloc (.cells #[.int .i64 t.n, .slice la t.links.length lc] 24)).alloc (.cells #[.int .i64 0, .int .i64 0, .slice none 0 0, .slice none 0 0, .int .i64 0, .slice none 0 0, .slice none 0 0, .int .i64 0, .slice none 0 0] 32)) (w.heap.size + 1) 24 #[.int .i64 t.n, .slice la t.links.length lc] := (blockIs.new (by simp)).alloc _
  have hZ0 : blockIs (((w.alloc (.cells #[.int .i64 cst, .int .i64 cnow.ver, .slice a1 cnow.flows.length ac, .slice a2 cnow.paths.length pc, x0, x1, x2, .int .i64 cnum, .slice qa cws.length qc] 32)).alloc (.cells #[.int .i64 t.n, .slice la t.links.length lc] 24)).alloc (.cells #[.int .i64 0, .int .i64 0, .slice none 0 0, .slice none 0 0, .int .i64 0, .slice none 0 0, .slice none 0 0, .int .i64 0, .slice none 0 0] 32)) (w.heap.size + 1 + 1) 32 #[.int .i64 0, .int .i64 0, .slice none 0 0, .slice none 0 0, .int .i64 0, .slice none 0 0, .slice none 0 0, .int .i64 0, .slice none 0 0] := blockIs.new (by simp)
  go_enter Try.func10, Try.ntmps10
  go_upto_region 1 with fail
  generalize (((w.alloc (.cells #[.int .i64 cst, .int .i64 cnow.ver, .slice a1 cnow.flows.length ac, .slice a2 cnow.paths.length pc, x0, x1, x2, .int .i64 cnum, .slice qa cws.length qc] 32)).alloc (.cells #[.int .i64 t.n, .slice la t.links.length lc] 24)).alloc (.cells #[.int .i64 0, .int .i64 0, .slice none 0 0, .slice none 0 0, .int .i64 0, .slice none 0 0, .slice none 0 0, .int .i64 0, .slice none 0 0] 32)) = w0 at *
  obtain ⟨c1, c2⟩ := hC0.cells
  obtain ⟨z1, z2⟩ := hZ0.cells
  obtain ⟨t1, t2⟩ := hT0.cells
  have hcl := hC0.lt
  have hzl := hZ0.lt
  have htl := hT0.lt
  by_cases hs0 : cst = 0
  case neg =>
    have HE := Lib.hid (HE1.out hs0)
    have hs0' : (cst != 0) = true := by rw [bne_iff_ne]; exact hs0
    clear HE1 HE2 HE3 HE4 HPK hs0
    obtain ⟨G, FR⟩ := set9 hZ0 (fun b => b ≠ w.heap.size + 1 + 1) w.heap.size (fun h => h rfl) (by omega) (.int .i64 0) (.int .i64 0) (.slice none 0 0) (.slice none 0 0) (.int .i64 0) (.slice none 0 0) (.slice none 0 0) (.int .i64 0) (.slice none 0 0)
    have hB9 := hB0.trans FR.below
    obtain ⟨g1, g2⟩ := G.cells
    go_wp2_with ((with_reducible refine bodyPost_ret (v := .tuple #[.agg #[.int .i64 0, .int .i64 0, .slice none 0 0, .slice none 0 0, .int .i64 0, .slice none 0 0, .slice none 0 0, .int .i64 0, .slice none 0 0], .slice none 0 0, .int .i64 11]) ?ra1 ?rb1 ?rc1); go_must (case ra1 => simp [results, Try.results10, go_sem, g1]); go_must (case rb1 => rfl); go_must (case rc1 => exact ⟨refOut.bad HE.out, hB9⟩))
  subst hs0
  have hup : IntKind.i64.wrap (cnow.ver + 1) = up cnow.ver := rfl
  --CUT1
  have HX2 := Lib.hid (HE2.out rfl)
  have HX3 := Lib.hid (HE3.out rfl)
  have HX4 := Lib.hid (HE4.out rfl)
  have HPO := HPK
  have hui := up_i64 cnow.ver
  clear HE1 HE2 HE3 HE4 HPK
  go_wp2_with fail
  refine (refPlan_f t (up cnow.ver) hui l _ okt (fun b => okl b ∧ b < w.heap.size) fa fc w0 (topoS.below hT hB0) ((hl.anyOk (fun b hb h => ⟨h, hb⟩)).below hB0)).mono ?_
  rintro e w1 ⟨ps, rfl, hp, hb1⟩
  obtain ⟨p0, p1, p2, rfl, hp1⟩ := planC.of hp
  obtain ⟨lp0, lp1, lp2⟩ := planC.st (P := Try.prog) hp1
  obtain ⟨op0, op1, op2⟩ := planC.one hp1
  have hp2 : p0 = .int .i64 (planOf t (up cnow.ver) l).1.ver := by
    obtain ⟨ga, gc, qa, qc, hne, _⟩ := hp1
    injection hne
  have hpv : I64 (planOf t (up cnow.ver) l).1.ver := by
    obtain ⟨ga, gc, qa, qc, hne, hnv, _⟩ := hp1
    exact hnv
  have hB1 := hB0.trans (hb1.mono hB0.size)
  have hC1 := hC0.under hb1
  have hT1 := hT0.under hb1
  have hZ1 := hZ0.under hb1
  have hs1 := hb1.size
  have hbx : Below w1.heap.size w1 ((w1.alloc (.cells #[p0, p1, p2] 30)).alloc (.cells #[.int .i64 (planOf t (up cnow.ver) l).2.1, .int .i64 (planOf t (up cnow.ver) l).2.2] 66)) := by (repeat' (first | with_reducible exact Below.refl _ _ | with_reducible assumption | with_reducible refine Below.drew ?_ | with_reducible refine Below_drewN ?_ _ | with_reducible refine Below.alloc ?_ ?_ _ | with_reducible refine Below.setCell ?_ ?_ _ | omega | (simp; done) | (simp; omega)))
  have hC2 := hC1.under hbx
  have hT2 := hT1.under hbx
  have hZ2 := hZ1.under hbx
  have hP2 : blockIs ((w1.alloc (.cells #[p0, p1, p2] 30)).alloc (.cells #[.int .i64 (planOf t (up cnow.ver) l).2.1, .int .i64 (planOf t (up cnow.ver) l).2.2] 66)) w1.heap.size 30 #[p0, p1, p2] := (blockIs.new rfl).alloc _
  have hF2 : blockIs ((w1.alloc (.cells #[p0, p1, p2] 30)).alloc (.cells #[.int .i64 (planOf t (up cnow.ver) l).2.1, .int .i64 (planOf t (up cnow.ver) l).2.2] 66)) (w1.heap.size + 1) 66 #[.int .i64 (planOf t (up cnow.ver) l).2.1, .int .i64 (planOf t (up cnow.ver) l).2.2] := blockIs.new (by simp)
  have hp9 : planC _ (fun b => (okl b ∧ b < w.heap.size) ∨ (w.heap.size + 3 ≤ b ∧ b < w1.heap.size)) p0 p1 p2 (planOf t (up cnow.ver) l).1 := planS.below (planS.anyOk hp1 fun b hb h => h.elim .inl (fun h2 => .inr ⟨by omega, hb⟩)) hbx
  have hB2 := hB1.trans (hbx.mono hB1.size)
  subst hp2
  clear c1 c2 z1 z2 t1 t2
  generalize planOf t (up cnow.ver) l = po at *
  obtain ⟨pl, k1, k2⟩ := po
  dsimp only at *
  clear hp hp1 hb1 hbx hB0 hC0 hT0 hZ0
  by_cases h1 : k1 = 0
  case neg =>
    have HE := Lib.hid (HX2.out h1)
    have h1' : (k1 != 0) = true := by rw [bne_iff_ne]; exact h1
    clear HX2 HX3 HX4 HPO h1 hC1 hT1 hZ1 hB1 hp9
    obtain ⟨f1, f2⟩ := hF2.cells
    go_wp2
    generalize (w1.alloc (.cells #[.int .i64 pl.ver, p1, p2] 30)).alloc (.cells #[.int .i64 k1, .int .i64 k2] 66) = w2 at *
    have hfb : w.heap.size + 1 + 1 < w1.heap.size := by omega
    generalize w1.heap.size = fb at *
    clear f1 f2
    have hS0 : SBf (fb + 1) k1 w2.drew := hF2.cells.1 0
    refine wp_region_to (SBf (fb + 1) k1) 99 (fun a0 a' w' => ∃ v32 v33 v34, a' = puts a0 [(32, v32), (33, v33), (34, v34), (7, .slice none 0 0), (8, .int .i64 k1)] ∧ blockIs w' (w.heap.size + 1 + 1) 32 #[.int .i64 0, .int .i64 0, .slice none 0 0, .slice none 0 0, .int .i64 0, .slice none 0 0, .slice none 0 0, .int .i64 0, .slice none 0 0] ∧ Below w.heap.size w w') (by kernel_rfl) ?_ ?_
    · intro Q' hR hQp
      have hb0 : Below w2.heap.size w2 w2.drew := by (repeat' (first | with_reducible exact Below.refl _ _ | with_reducible assumption | with_reducible refine Below.drew ?_ | with_reducible refine Below_drewN ?_ _ | with_reducible refine Below.alloc ?_ ?_ _ | with_reducible refine Below.setCell ?_ ?_ _ | omega | (simp; done) | (simp; omega)))
      have hS : SBf (fb + 1) k1 w2.drew := hS0
      generalize w2.drew = wa at *
      have hZa := hZ2.under hb0
      have hFa := hF2.under hb0
      have hBa := hB2.trans (hb0.mono hB2.size)
      obtain ⟨z1, z2⟩ := hZa.cells
      have hzl := hZa.lt
      refine wpAnyK_take' (i := 0) _ rfl (by kernel_rfl) (fun _ _ _ h => hQp _ _ _ _ h) hS (yields_value (by kernel_rfl) (by intro w0 hw0; have hw1 := hw0; simp only [SBf] at hw1; first | (go_simp; done) | (go_simp; rfl))) ?_; simp only [Act.put, List.getElem_toArray, List.getElem_cons_succ, List.getElem_cons_zero, List.setIfInBounds_toArray, List.set_cons_succ, List.set_cons_zero]
      refine wpAnyK_take' (i := 1) _ rfl (by kernel_rfl) (fun _ _ _ h => hQp _ _ _ _ h) hS (yields_value (by kernel_rfl) (by intro w0 hw0; have hw1 := hw0; simp only [SBf] at hw1; first | (go_simp; done) | (go_simp; rfl))) ?_; simp only [Act.put, List.getElem_toArray, List.getElem_cons_succ, List.getElem_cons_zero, List.setIfInBounds_toArray, List.set_cons_succ, List.set_cons_zero]
      refine wpAnyK_take' (i := 2) _ rfl (by kernel_rfl) (fun _ _ _ h => hQp _ _ _ _ h) hS (yields_value (by kernel_rfl) (by intro w0 hw0; have hw1 := hw0; simp only [SBf] at hw1; first | (go_simp; done) | (go_simp; rfl))) ?_; simp only [Act.put, List.getElem_toArray, List.getElem_cons_succ, List.getElem_cons_zero, List.setIfInBounds_toArray, List.set_cons_succ, List.set_cons_zero]
      clear hS
      refine wpAnyK_call (i := 3) rfl (by kernel_rfl) (by kernel_rfl) fun K3 hK3 => ?_
      go_simp
      go_wp2_with fail
      obtain ⟨G, FR⟩ := set9 hZa (fun b => b ≠ w.heap.size + 1 + 1) w.heap.size (fun h => h rfl) (by omega) (.int .i64 0) (.int .i64 0) (.slice none 0 0) (.slice none 0 0) (.int .i64 0) (.slice none 0 0) (.slice none 0 0) (.int .i64 0) (.slice none 0 0)
      have hS : _ := (FR.blk hFa (.inl (by omega))).cells.1 0
      refine hK3 _ _ (fun _ => hS) ?_
      clear hK3
      refine wpAnyK_take' (i := 4) _ rfl (by kernel_rfl) (fun _ _ _ h => hQp _ _ _ _ h) hS (yields_value (by kernel_rfl) (by intro w0 hw0; have hw1 := hw0; simp only [SBf] at hw1; first | (go_simp; done) | (go_simp; rfl))) ?_; simp only [Act.put, List.getElem_toArray, List.getElem_cons_succ, List.getElem_cons_zero, List.setIfInBounds_toArray, List.set_cons_succ, List.set_cons_zero]
      refine wpAnyK_take' (i := 5) _ rfl (by kernel_rfl) (fun _ _ _ h => hQp _ _ _ _ h) hS (yields_value (by kernel_rfl) (by intro w0 hw0; have hw1 := hw0; simp only [SBf] at hw1; first | (go_simp; done) | (go_simp; rfl))) ?_; simp only [Act.put, List.getElem_toArray, List.getElem_cons_succ, List.getElem_cons_zero, List.setIfInBounds_toArray, List.set_cons_succ, List.set_cons_zero]
      refine wpAnyK_done (by kernel_rfl) ?_ _
      refine hR _ _ ?_
      iterate 3 apply Exists.intro
      refine ⟨?_, ⟨G, hBa.trans FR.below⟩⟩
      simp only [puts, Act.put, List.setIfInBounds_toArray, List.set_cons_succ, List.set_cons_zero]
      rfl
    rintro a' w8 ⟨v32, v33, v34, rfl, hb8⟩
    simp only [puts, Act.put, List.setIfInBounds_toArray, List.set_cons_succ, List.set_cons_zero]
    obtain ⟨hZ9, hB9⟩ := hb8
    obtain ⟨g1, g2⟩ := hZ9.cells
    go_wp2_with ((with_reducible refine bodyPost_ret (v := .tuple #[.agg #[.int .i64 0, .int .i64 0, .slice none 0 0, .slice none 0 0, .int .i64 0, .slice none 0 0, .slice none 0 0, .int .i64 0, .slice none 0 0], .slice none 0 0, .int .i64 k1]) ?ra2 ?rb2 ?rc2); go_must (case ra2 => simp [results, Try.results10, go_sem, g1]); go_must (case rb2 => rfl); go_must (case rc2 => exact ⟨refOut.bad HE.out, hB9⟩))
  subst h1
  have hpo := HPO.out (by first | trivial | rfl)
  have HY3 := Lib.hid (HX3.out (by first | trivial | rfl))
  have HY4 := Lib.hid (HX4.out (by first | trivial | rfl))
  clear HX2 HX3 HX4 HPO
  have hn1 := hpo.n1
  have hn8 := hpo.n8
  have hps := hpo.small
  have hpr : ∀ s : Nat, (rulesAt pl s).length ≤ 96 := fun s => hpo.short s
  obtain ⟨c1, c2⟩ := hC1.cells
  obtain ⟨t1, t2⟩ := hT1.cells
  have hl1 : w.heap.size < w1.heap.size := by omega
  have hl2 : w.heap.size + 1 < w1.heap.size := by omega
  --CUT3
  go_wp2
  clear c1 c2 t1 t2 hC1 hT1 hZ1 hB1 lp0 op0
  generalize (w1.alloc (.cells #[.int .i64 pl.ver, p1, p2] 30)).alloc (.cells #[.int .i64 0, .int .i64 k2] 66) = w2 at *
  generalize hPB : w1.heap.size = PB at *
  clear hcl hzl htl hF2 hpo
  have hnB : planC w2 okc (.int .i64 cnow.ver) (.slice a1 cnow.flows.length ac) (.slice a2 cnow.paths.length pc) cnow := planS.below hn hB2
  have HG0 : Hid (fullTo cnow pl 0 = false) := rfl
  --CUT4
  go_loopw [11] (fun sv wr => ∃ s : Nat, sv = .int .i64 s ∧ s ≤ t.n.toNat ∧ Hid (fullTo cnow pl s = false) ∧ Below w2.heap.size w2 wr) (fun sv _ => t.n.toNat - (intOf sv).toNat)
  case atStart => exact ⟨0, rfl, Nat.zero_le _, HG0, Below.refl _ _⟩
  case round =>
  clear HG0
  obtain ⟨s, rfl, hs, hfs, hb⟩ := hrel
  rename World => wo
  have hso := hb.size
  have hCo := hC2.under hb
  have hTo := hT2.under hb
  have hZo := hZ2.under hb
  have hPo := hP2.under hb
  have hBo := hB2.trans (hb.mono hB2.size)
  have hcl := hCo.lt
  have htl := hTo.lt
  have hzl := hZo.lt
  have hpl := hPo.lt
  obtain ⟨c1, c2⟩ := hCo.cells
  obtain ⟨t1, t2⟩ := hTo.cells
  by_cases hlt : s < t.n.toNat
  case pos =>
    have b1 : (s : Int) < t.n := by omega
    have hL1 := s4 s
    have hL2 := hpr s
    have hG6 : Hid (16 < (rulesAt cnow s).length + (rulesAt pl s).length → R = (noCtl, [], 10)) := fun h => HY3.out (fullTo_at hlt h)
    have hG7 : Hid (¬ 16 < (rulesAt cnow s).length + (rulesAt pl s).length → fullTo cnow pl (s + 1) = false) := fun h => fullTo_go hfs.out h
    have hOF := fun (w' : World) (hb : Below w2.heap.size w2 w') => refRules_c cnow (s : Int) _ _ w' (planS.below hnB hb) (Nat.le_trans (s4 s) (by decide)) (by have := s1.pts; omega)
    have hOG := fun (w' : World) (hb : Below w2.heap.size w2 w') => refRules_c pl (s : Int) _ _ w' (planS.below hp9 hb) (Nat.le_trans (hpr s) (by decide)) (by have := hps.pts; omega)
    have HOF := Lib.hid hOF
    have HOG := Lib.hid hOG
    clear hOF hOG
    generalize rulesAt pl (s : Int) = RI at *
    generalize rulesAt cnow (s : Int) = RC at *
    have hwp : IntKind.i64.wrap ((RC.length : Int) + (RI.length : Int)) = (RC.length : Int) + (RI.length : Int) := IntWalk.i64_in _ (by omega)
    have hS0 : S67 w.heap.size (w.heap.size + 1) PB (.int .i64 cnow.ver) (.slice a1 cnow.flows.length ac) (.slice a2 cnow.paths.length pc) (.int .i64 t.n) (.int .i64 pl.ver) p1 p2 wo.drew := S67.of hCo hTo hPo
    --CUT5
    go_wp2
    refine wp_region_to (S67 w.heap.size (w.heap.size + 1) PB (.int .i64 cnow.ver) (.slice a1 cnow.flows.length ac) (.slice a2 cnow.paths.length pc) (.int .i64 t.n) (.int .i64 pl.ver) p1 p2) 99 (fun a0 a' w' => ∃ v41 v42 v43 v44 v45 v46 v47 v48 v49 v50, a' = puts a0 [(41, v41), (42, v42), (43, v43), (44, v44), (45, v45), (46, v46), (47, v47), (48, v48), (49, v49), (50, v50), (51, .bool (decide ((RC.length : Int) + (RI.length : Int) > 16)))] ∧ Below wo.heap.size wo w') (by kernel_rfl) ?_ ?_
    · intro Q' hR hQp
      have hb0 : Below wo.heap.size wo wo.drew := by (repeat' (first | with_reducible exact Below.refl _ _ | with_reducible assumption | with_reducible refine Below.drew ?_ | with_reducible refine Below_drewN ?_ _ | with_reducible refine Below.alloc ?_ ?_ _ | with_reducible refine Below.setCell ?_ ?_ _ | omega | (simp; done) | (simp; omega)))
      have hS : S67 w.heap.size (w.heap.size + 1) PB (.int .i64 cnow.ver) (.slice a1 cnow.flows.length ac) (.slice a2 cnow.paths.length pc) (.int .i64 t.n) (.int .i64 pl.ver) p1 p2 wo.drew := hS0
      generalize wo.drew = wa at *
      have hCa := hCo.under hb0
      have hTa := hTo.under hb0
      have hPa := hPo.under hb0
      have hsa := hb0.size
      have hbA := hb.trans (hb0.mono hso)
      refine wpAnyK_take' (i := 0) _ rfl (by kernel_rfl) (fun _ _ _ h => hQp _ _ _ _ h) hS (yields_value (by kernel_rfl) (by intro w0 hw0; have hw1 := hw0; simp only [S67] at hw1; first | (go_simp; done) | (go_simp; rfl))) ?_; simp only [Act.put, List.getElem_toArray, List.getElem_cons_succ, List.getElem_cons_zero, List.setIfInBounds_toArray, List.set_cons_succ, List.set_cons_zero]
      refine wpAnyK_take' (i := 2) _ rfl (by kernel_rfl) (fun _ _ _ h => hQp _ _ _ _ h) hS (yields_value (by kernel_rfl) (by intro w0 hw0; have hw1 := hw0; simp only [S67] at hw1; first | (go_simp; done) | (go_simp; rfl))) ?_; simp only [Act.put, List.getElem_toArray, List.getElem_cons_succ, List.getElem_cons_zero, List.setIfInBounds_toArray, List.set_cons_succ, List.set_cons_zero]
      refine wpAnyK_take' (i := 5) _ rfl (by kernel_rfl) (fun _ _ _ h => hQp _ _ _ _ h) hS (yields_value (by kernel_rfl) (by intro w0 hw0; have hw1 := hw0; simp only [S67] at hw1; first | (go_simp; done) | (go_simp; rfl))) ?_; simp only [Act.put, List.getElem_toArray, List.getElem_cons_succ, List.getElem_cons_zero, List.setIfInBounds_toArray, List.set_cons_succ, List.set_cons_zero]
      refine wpAnyK_take' (i := 6) _ rfl (by kernel_rfl) (fun _ _ _ h => hQp _ _ _ _ h) hS (yields_value (by kernel_rfl) (by intro w0 hw0; have hw1 := hw0; simp only [S67] at hw1; first | (go_simp; done) | (go_simp; rfl))) ?_; simp only [Act.put, List.getElem_toArray, List.getElem_cons_succ, List.getElem_cons_zero, List.setIfInBounds_toArray, List.set_cons_succ, List.set_cons_zero]
      refine wpAnyK_take' (i := 1) _ rfl (by kernel_rfl) (fun _ _ _ h => hQp _ _ _ _ h) hS (yields_value (by kernel_rfl) (by intro w0 hw0; have hw1 := hw0; simp only [S67] at hw1; first | (go_simp; done) | (go_simp; rfl))) ?_; simp only [Act.put, List.getElem_toArray, List.getElem_cons_succ, List.getElem_cons_zero, List.setIfInBounds_toArray, List.set_cons_succ, List.set_cons_zero]
      clear hS
      refine wpAnyK_call (i := 3) rfl (by kernel_rfl) (by kernel_rfl) fun K3 hK3 => ?_
      go_simp
      go_wp2_with fail
      refine (HOF.out wa hbA).mono ?_
      rintro e wb ⟨ra, rc, rfl, hrr, hab⟩
      have hb1 := hb0.trans (hab.mono hb0.size)
      have hbB := hbA.trans (hab.mono hbA.size)
      have hrx := hrr.len_le
      go_wp2_with fail
      have hS : _ := S67.of (hCo.under hb1) (hTo.under hb1) (hPo.under hb1)
      refine hK3 _ _ (fun _ => hS) ?_
      clear hK3
      refine wpAnyK_take' (i := 4) _ rfl (by kernel_rfl) (fun _ _ _ h => hQp _ _ _ _ h) hS (yields_value (by kernel_rfl) (by intro w0 hw0; have hw1 := hw0; simp only [S67] at hw1; first | (go_simp; done) | (go_simp; rfl))) ?_; simp only [Act.put, List.getElem_toArray, List.getElem_cons_succ, List.getElem_cons_zero, List.setIfInBounds_toArray, List.set_cons_succ, List.set_cons_zero]
      clear hS
      refine wpAnyK_call (i := 7) rfl (by kernel_rfl) (by kernel_rfl) fun K7 hK7 => ?_
      go_simp
      go_wp2_with fail
      refine (HOG.out wb hbB).mono ?_
      rintro e wc ⟨ra2, rc2, rfl, hrr2, hbc⟩
      have hb2 := hb1.trans (hbc.mono hb1.size)
      have hrx2 := hrr2.len_le
      go_wp2_with fail
      have hS : _ := S67.of (hCo.under hb2) (hTo.under hb2) (hPo.under hb2)
      refine hK7 _ _ (fun _ => hS) ?_
      clear hK7
      refine wpAnyK_take' (i := 8) _ rfl (by kernel_rfl) (fun _ _ _ h => hQp _ _ _ _ h) hS (yields_value (by kernel_rfl) (by intro w0 hw0; have hw1 := hw0; simp only [S67] at hw1; first | (go_simp; done) | (go_simp; rfl))) ?_; simp only [Act.put, List.getElem_toArray, List.getElem_cons_succ, List.getElem_cons_zero, List.setIfInBounds_toArray, List.set_cons_succ, List.set_cons_zero]
      refine wpAnyK_take' (i := 9) _ rfl (by kernel_rfl) (fun _ _ _ h => hQp _ _ _ _ h) hS (yields_value (by kernel_rfl) (by intro w0 hw0; have hw1 := hw0; simp only [S67] at hw1; first | (go_simp; done) | (go_simp; rfl))) ?_; simp only [Act.put, List.getElem_toArray, List.getElem_cons_succ, List.getElem_cons_zero, List.setIfInBounds_toArray, List.set_cons_succ, List.set_cons_zero]
      refine wpAnyK_take' (i := 10) _ rfl (by kernel_rfl) (fun _ _ _ h => hQp _ _ _ _ h) hS (yields_value (by kernel_rfl) (by intro w0 hw0; have hw1 := hw0; simp only [S67] at hw1; first | (go_simp; done) | (go_simp; rfl))) ?_; simp only [Act.put, List.getElem_toArray, List.getElem_cons_succ, List.getElem_cons_zero, List.setIfInBounds_toArray, List.set_cons_succ, List.set_cons_zero]
      refine wpAnyK_done (by kernel_rfl) ?_ _
      refine hR _ _ ?_
      iterate 10 apply Exists.intro
      refine ⟨?_, hb2⟩
      simp only [puts, Act.put, List.setIfInBounds_toArray, List.set_cons_succ, List.set_cons_zero]
      rfl
    rintro a' w8 ⟨v41, v42, v43, v44, v45, v46, v47, v48, v49, v50, rfl, hb8⟩
    simp only [puts, Act.put, List.setIfInBounds_toArray, List.set_cons_succ, List.set_cons_zero]
    --CUT6
    have hb9 := hb.trans (hb8.mono hso)
    have hZ8 := hZo.under hb8
    have hB8 := hBo.trans (hb8.mono hBo.size)
    clear HOF HOG c1 c2 t1 t2 hCo hTo hPo hS0
    by_cases hfull : 16 < RC.length + RI.length
    case pos =>
      have HE := Lib.hid (hG6.out hfull)
      have hf1 : decide ((RC.length : Int) + (RI.length : Int) > 16) = true := by rw [decide_eq_true_iff]; omega
      rw [hf1]
      clear hf1 hG6 hG7 hfull HY3 HY4 hwp hL1 hL2
      obtain ⟨G, FR⟩ := set9 hZ8 (fun b => b ≠ w.heap.size + 1 + 1) w.heap.size (fun h => h rfl) (by omega) (.int .i64 0) (.int .i64 0) (.slice none 0 0) (.slice none 0 0) (.int .i64 0) (.slice none 0 0) (.slice none 0 0) (.int .i64 0) (.slice none 0 0)
      obtain ⟨g1, g2⟩ := G.cells
      obtain ⟨z1, z2⟩ := hZ8.cells
      have hzl8 := hZ8.lt
      have hB9 := hB8.trans FR.below
      clear FR
      --CUT6a
      go_wp2_with ((with_reducible refine bodyPost_ret (v := .tuple #[.agg #[.int .i64 0, .int .i64 0, .slice none 0 0, .slice none 0 0, .int .i64 0, .slice none 0 0, .slice none 0 0, .int .i64 0, .slice none 0 0], .slice none 0 0, .int .i64 10]) ?ra3 ?rb3 ?rc3); go_must (case ra3 => simp [results, Try.results10, go_sem, g1]); go_must (case rb3 => rfl); go_must (case rc3 => exact ⟨refOut.bad HE.out, hB9⟩))
    --CUT6b
    have HF := Lib.hid (hG7.out hfull)
    have hf1 : decide ((RC.length : Int) + (RI.length : Int) > 16) = false := by rw [decide_eq_false_iff_not]; omega
    rw [hf1]
    clear hf1 hG6 hG7 hfull hZ8 hB8 hwp hL1 hL2
    go_wp2
    case roundEnd =>
      go_roundw
      case rel => exact ⟨s + 1, by go_num, by omega, HF, hb9⟩
      case measure => simp [intOf] <;> omega
  --CUT7
  obtain rfl : s = t.n.toNat := by omega
  have b1 : ¬ ((t.n.toNat : Nat) : Int) < t.n := by omega
  have HE := Lib.hid (HY4.out hfs.out)
  have hn5 : planC wo (fun b => (okc b ∧ b < w.heap.size) ∨ (okl b ∧ b < w.heap.size) ∨ (w.heap.size + 3 ≤ b ∧ b < PB)) (.int .i64 cnow.ver) (.slice a1 cnow.flows.length ac) (.slice a2 cnow.paths.length pc) cnow := planS.below (planS.anyOk hn (fun b hl h => .inl ⟨h, hl⟩)) hBo
  have hx5 : planC wo (fun b => (okc b ∧ b < w.heap.size) ∨ (okl b ∧ b < w.heap.size) ∨ (w.heap.size + 3 ≤ b ∧ b < PB)) (.int .i64 pl.ver) p1 p2 pl := planS.anyOk (planS.below hp9 hb) (fun b hl h => .inr h)
  have hw5 := ((hw.anyOk (ok' := fun b => okc b ∧ b < w.heap.size) (fun b hl h => ⟨h, hl⟩)).below hBo)
  have hbx : Below wo.heap.size wo (wo.alloc (.cells #[.slice none 0 0] 44)) := by (repeat' (first | with_reducible exact Below.refl _ _ | with_reducible assumption | with_reducible refine Below.drew ?_ | with_reducible refine Below_drewN ?_ _ | with_reducible refine Below.alloc ?_ ?_ _ | with_reducible refine Below.setCell ?_ ?_ _ | omega | (simp; done) | (simp; omega)))
  have hC5 := hCo.under hbx
  have hT5 := hTo.under hbx
  have hZ5 := hZo.under hbx
  have hP5 := hPo.under hbx
  have hO5 : blockIs (wo.alloc (.cells #[.slice none 0 0] 44)) wo.heap.size 44 #[.slice none 0 0] := blockIs.new rfl
  have hU5 : ownR toS 85 (oth (wo.heap.size + 1) (wo.alloc (.cells #[.slice none 0 0] 44)) none) (wo.heap.size + 1) (wo.alloc (.cells #[.slice none 0 0] 44)) none 0 0 [] := oth.nil _ _ _ _ _
  have hn6 := planS.below hn5 hbx
  have hx6 := planS.below hx5 hbx
  have hw6 := hw5.below hbx
  have hB5 := hBo.trans (hbx.mono hBo.size)
  have hs5 : (wo.alloc (.cells #[.slice none 0 0] 44)).heap.size = wo.heap.size + 1 := by simp
  have hS0' : Hid (tells (⟨1, cnow, pl, cnum, cws⟩, []) (over (addAt pl) 0) = (⟨1, cnow, pl, cnum, cws⟩, [])) := rfl
  clear hn5 hx5 hw5 hbx hCo hTo hZo hPo hC2 hT2 hZ2 hP2 hnB hp9 hb hfs HY3 HY4 hBo
  have hwo : w.heap.size + 3 ≤ wo.heap.size := by omega
  have hpo8 : PB < wo.heap.size := hpl
  go_wp2_with fail
  --CUT8
  clear c1 c2 t1 t2
  generalize (wo.alloc (.cells #[.slice none 0 0] 44)) = w5 at *
  generalize wo.heap.size = D at *
  have hS0 : S3 PB 0 (.int .i64 pl.ver) p1 p2 w5.drew := ⟨hP5.cells.1 0, hP5.cells.1 1, hP5.cells.1 2⟩
  refine wp_region_to (S3 PB 0 (.int .i64 pl.ver) p1 p2) 99 (fun a0 a' w' => ∃ v53 v54 v55, a' = puts a0 [(53, v53), (54, v54), (55, v55)] ∧ blockIs w' w.heap.size 32 #[.int .i64 1, .int .i64 cnow.ver, .slice a1 cnow.flows.length ac, .slice a2 cnow.paths.length pc, .int .i64 pl.ver, p1, p2, .int .i64 cnum, .slice qa cws.length qc] ∧ Frm (fun b => b ≠ w.heap.size) w.heap.size w5 w') (by kernel_rfl) ?_ ?_
  · intro Q' hR hQp
    have hb0 : Below w5.heap.size w5 w5.drew := by (repeat' (first | with_reducible exact Below.refl _ _ | with_reducible assumption | with_reducible refine Below.drew ?_ | with_reducible refine Below_drewN ?_ _ | with_reducible refine Below.alloc ?_ ?_ _ | with_reducible refine Below.setCell ?_ ?_ _ | omega | (simp; done) | (simp; omega)))
    have hS : S3 PB 0 (.int .i64 pl.ver) p1 p2 w5.drew := hS0
    generalize w5.drew = wa at *
    have hDa := hC5.under hb0
    have hPa := hP5.under hb0
    have hFa : Frm (fun b => b ≠ w.heap.size) w.heap.size w5 wa := Frm.of hb0 hB5.size
    have hsa := hb0.size
    refine wpAnyK_take' (i := 0) _ rfl (by kernel_rfl) (fun _ _ _ h => hQp _ _ _ _ h) hS (yields_value (by kernel_rfl) (by intro w0 hw0; have hw1 := hw0; simp only [S3] at hw1; first | (go_simp; done) | (go_simp; rfl))) ?_; simp only [Act.put, List.getElem_toArray, List.getElem_cons_succ, List.getElem_cons_zero, List.setIfInBounds_toArray, List.set_cons_succ, List.set_cons_zero]
    refine wpAnyK_take' (i := 1) _ rfl (by kernel_rfl) (fun _ _ _ h => hQp _ _ _ _ h) hS (yields_value (by kernel_rfl) (by intro w0 hw0; have hw1 := hw0; simp only [S3] at hw1; first | (go_simp; done) | (go_simp; rfl))) ?_; simp only [Act.put, List.getElem_toArray, List.getElem_cons_succ, List.getElem_cons_zero, List.setIfInBounds_toArray, List.set_cons_succ, List.set_cons_zero]
    obtain ⟨c1, c2⟩ := hDa.cells
    have hdla := hDa.lt
    clear hS
    refine wpAnyK_call (i := 2) rfl (by kernel_rfl) (by kernel_rfl) fun K2 hK2 => ?_
    go_simp
    go_wp2_with fail
    have hDb := hDa.set 0 (.int .i64 1)
    simp only [List.setIfInBounds_toArray, List.set_cons_zero] at hDb
    have hFb := hFa.trans (Frm.set (a := ⟨w.heap.size, 0, none⟩) (fun h => h rfl) (Nat.le_refl _) (.int .i64 1))
    have hPb := hPa.setOther (a := ⟨w.heap.size, 0, none⟩) (by show PB ≠ w.heap.size; omega) (.int .i64 1)
    have hS : _ := (show S3 PB 0 (.int .i64 pl.ver) p1 p2 _ from ⟨hPb.cells.1 0, hPb.cells.1 1, hPb.cells.1 2⟩)
    refine hK2 _ _ (fun _ => hS) ?_
    clear hK2
    clear c1 c2
    obtain ⟨c1, c2⟩ := hDb.cells
    have hdlb := hDb.lt
    refine wpAnyK_take' (i := 3) _ rfl (by kernel_rfl) (fun _ _ _ h => hQp _ _ _ _ h) hS (yields_value (by kernel_rfl) (by intro w0 hw0; have hw1 := hw0; simp only [S3] at hw1; first | (go_simp; done) | (go_simp; rfl))) ?_; simp only [Act.put, List.getElem_toArray, List.getElem_cons_succ, List.getElem_cons_zero, List.setIfInBounds_toArray, List.set_cons_succ, List.set_cons_zero]
    clear hS
    refine wpAnyK_call (i := 4) rfl (by kernel_rfl) (by kernel_rfl) fun K4 hK4 => ?_
    go_simp
    go_wp2_with fail
    obtain ⟨hDc, FRc⟩ := set3 (cs := [.int .i64 1, .int .i64 cnow.ver, .slice a1 cnow.flows.length ac, .slice a2 cnow.paths.length pc, x0, x1, x2, .int .i64 cnum, .slice qa cws.length qc]) hDb 4 (fun b => b ≠ w.heap.size) w.heap.size (fun h => h rfl) (Nat.le_refl _) (.int .i64 pl.ver) p1 p2
    have hPc := FRc.blk hPb (.inl (by omega))
    have hS : _ := (show S3 PB 0 (.int .i64 pl.ver) p1 p2 _ from ⟨hPc.cells.1 0, hPc.cells.1 1, hPc.cells.1 2⟩)
    refine hK4 _ _ (fun _ => hS) ?_
    clear hK4
    refine wpAnyK_done (by kernel_rfl) ?_ _
    refine hR _ _ ?_
    iterate 3 apply Exists.intro
    refine ⟨?_, ⟨hDc, hFb.trans FRc⟩⟩
    simp only [puts, Act.put, List.setIfInBounds_toArray, List.set_cons_succ, List.set_cons_zero]
    rfl
  rintro a' w8 ⟨v53, v54, v55, rfl, hb8⟩
  simp only [puts, Act.put, List.setIfInBounds_toArray, List.set_cons_succ, List.set_cons_zero]
  --CUT9
  obtain ⟨hC7, hF7⟩ := hb8
  have hT7 := hF7.blk hT5 (.inl (by omega))
  have hZ7 := hF7.blk hZ5 (.inl (by omega))
  have hP7 := hF7.blk hP5 (.inl (by omega))
  have hO7 := hF7.blk hO5 (.inl (by omega))
  have hU7 : ownR toS 85 (oth (D + 1) w8 none) (D + 1) w8 none 0 0 [] := oth.nil _ _ _ _ _
  have hn7 := hF7.rep' hn6 (fun b hb => .inl (by omega))
  have hx7 := hF7.rep' hx6 (fun b hb => .inl (by omega))
  have hw7 := hF7.row' hw6 (fun b hb => .inl (by omega))
  have hB7 := hB5.trans hF7.below
  have hs7 := hF7.size
  clear hC5 hT5 hZ5 hP5 hO5 hU5 hn6 hx6 hw6 hB5 hF7 hS0 hB2
  go_wp2
  --CUT10
  go_loopw [13, 14] (fun sv _ wr => ∃ (s : Nat) (num : Int) (ws : List Int) (o2 : List To) (va : Option Addr) (vc : Nat) (oa : Option Addr) (oc : Nat), sv = .int .i64 s ∧ s ≤ t.n.toNat ∧ Hid (tells (⟨1, cnow, pl, cnum, cws⟩, []) (over (addAt pl) s) = (⟨1, cnow, pl, num, ws⟩, o2)) ∧ ws.length ≤ cws.length + s ∧ o2.length ≤ s ∧ I64 num ∧
      blockIs wr w.heap.size 32 #[.int .i64 1, .int .i64 cnow.ver, .slice a1 cnow.flows.length ac, .slice a2 cnow.paths.length pc, .int .i64 pl.ver, p1, p2, .int .i64 num, .slice va ws.length vc] ∧ rowRep intS (fun b => (okc b ∧ b < w.heap.size) ∨ D + 1 ≤ b) wr va vc ws ∧ blockIs wr D 44 #[.slice oa o2.length oc] ∧ ownR toS 85 (oth (D + 1) wr oa) (D + 1) wr oa o2.length oc o2 ∧ Frm (keptS w.heap.size D (D + 1)) w.heap.size w8 wr) (fun sv _ _ => t.n.toNat - (intOf sv).toNat)
  case atStart => exact ⟨0, cnum, cws, [], qa, qc, none, 0, rfl, Nat.zero_le _, hS0', by omega, Nat.le_refl _, hnu, hC7, hw7.anyOk (fun b _ h => .inl h), hO7, hU7, Frm.refl _ _ _⟩
  case round =>
    clear hS0' hC7 hw7 hO7 hU7
    obtain ⟨s, num, ws, o2, va, vc, oa, oc, rfl, hs, hS, hwl2, hol2, hkn, hC, hV, hO, hU, hF⟩ := hrel
    rename World => wo
    have hs6 := hF.size
    have hTb := hF.blk hT7 (.inl ⟨by omega, by omega, by omega⟩)
    have hPb := hF.blk hP7 (.inl ⟨by omega, by omega, by omega⟩)
    have hxo := hF.rep' hx7 (fun b hb => .inl ⟨by omega, by omega, by omega⟩)
    have hcl := hC.lt
    have hTl := hTb.lt
    have hOl := hO.lt
    have hPl := hPb.lt
    obtain ⟨c1, c2⟩ := hC.cells
    obtain ⟨t1, t2⟩ := hTb.cells
    obtain ⟨d1, d2⟩ := hPb.cells
    by_cases hsn : s < t.n.toNat
    · have b1 : (s : Int) < t.n := by omega
      have hsI : I64 (s : Int) := ⟨by omega, by omega⟩
      have hRu := refRules_c pl (s : Int) _ _ wo hxo (Nat.le_trans (hpr s) (by decide)) (by have := hps.pts; omega)
      have HRu := Lib.hid hRu
      have HSN : Hid (rulesAt pl (s : Int) = [] → tells (⟨1, cnow, pl, cnum, cws⟩, []) (over (addAt pl) (s + 1)) = (⟨1, cnow, pl, num, ws⟩, o2)) := fun h => by
        rw [tells_over, hS.out]
        have e : addAt pl (s : Int) = [] := if_pos h
        rw [e, tells_nil]
      have HSY : Hid (rulesAt pl (s : Int) ≠ [] → tells (⟨1, cnow, pl, cnum, cws⟩, []) (over (addAt pl) (s + 1)) = (⟨1, cnow, pl, up num, ws ++ [up num]⟩, o2 ++ [⟨s, ⟨1, up num, pl.ver, rulesAt pl (s : Int), []⟩⟩])) := fun h => by
        rw [tells_over, hS.out]
        have e : addAt pl (s : Int) = [⟨s, ⟨1, 0, pl.ver, rulesAt pl (s : Int), []⟩⟩] := if_neg h
        rw [e, tells_cons, tells_nil]
        rfl
      generalize rulesAt pl (s : Int) = RI at *
      have hUlo : ∀ q, blk oa = some q → D + 1 ≤ q ∧ q < wo.heap.size := fun q hq => hU.lt q hq
      clear hRu hS
      --CUT11
      go_wp2_with fail
      refine HRu.out.mono ?_
      rintro e wk ⟨ra, rc, rfl, hri, hbk⟩
      have hCk := hC.under hbk
      have hOk := hO.under hbk
      have hPk := hPb.under hbk
      have hVk := hV.below hbk
      have hUk := oth.below hU hbk
      have hFk := hF.trans (Frm.of hbk (by omega))
      have hsk := hbk.size
      have hrx := hri.len_le
      clear HRu hbk hC hO hV hU hF c1 c2 t1 t2 d1 d2 hTb hxo hPb
      obtain ⟨c1, c2⟩ := hCk.cells
      obtain ⟨d1, d2⟩ := hPk.cells
      have hck := hCk.lt
      have hpk := hPk.lt
      by_cases hz : RI = []
      · subst hz
        have HE1 := Lib.hid (HSN.out rfl)
        clear HSN HSY
        go_wp2
        case roundEnd =>
          go_roundw
          case rel => exact ⟨s + 1, num, ws, o2, va, vc, oa, oc, by go_num, by omega, HE1, by omega, by omega, hkn, hCk, hVk, hOk, hUk, hFk⟩
          case measure => simp [intOf] <;> omega
      have HE1 := Lib.hid (HSY.out hz)
      have hl1 : decide ((RI.length : Int) > 0) = true := by rw [decide_eq_true_iff]; have := List.length_pos_iff.2 hz; omega
      have hl2 : (0 : Int) < (RI.length : Int) := by have := List.length_pos_iff.2 hz; omega
      have hl3 : 0 < RI.length := List.length_pos_iff.2 hz
      have hord : orderS.rep (fun q => D + 1 ≤ q ∧ blk oa ≠ some q) wk [.int .i64 1, .int .i64 0, .int .i64 pl.ver, .slice ra RI.length rc, .slice none 0 0] ⟨1, 0, pl.ver, RI, []⟩ :=
        ⟨ra, rc, none, 0, rfl, show I64 1 from I64.small (by decide) (by decide), show I64 0 from I64.small (by decide) (by decide), hpv, hri.anyOk (fun b _ h => ⟨by omega, fun e => by have := hUlo b e; omega⟩), rowRep.nil _ _ _ _⟩
      have hTell := refTell_c 1 num (.int .i64 cnow.ver) (.slice a1 cnow.flows.length ac) (.slice a2 cnow.paths.length pc) (.int .i64 pl.ver) p1 p2 ws o2 s ⟨1, 0, pl.ver, RI, []⟩ _ wk w.heap.size D (D + 1) w.heap.size va oa vc oc hCk (hVk.anyOk (fun b _ h => by omega)) hOk hUk hord hsI (by omega) (by omega) (by omega) (by omega) (by omega) (by omega) (Nat.le_refl _) (by omega)
      have HTL := Lib.hid hTell
      have HO9 : Hid ((o2 ++ [(⟨s, ⟨1, up num, pl.ver, RI, []⟩⟩ : To)]).length = o2.length + 1) := by show _ = _; simp
      have HW9 : Hid ((ws ++ [up num]).length = ws.length + 1) := by show _ = _; simp
      clear hTell hord HSN HSY hz hri
      --CUT12
      go_wp2_with fail
      refine HTL.out.mono ?_
      rintro e w9 ⟨rfl, va9, vc9, oa9, oc9, hC9, hV9, hO9, hU9, hF9⟩
      have hFZ := hFk.trans (hF9.weak (V := keptS w.heap.size D (D + 1)) (fun q _ h => .inl ⟨h.1, h.2.1, fun e => by have h1 := hUlo q e; have h2 := h.2.2; omega⟩) (Nat.le_refl _))
      have hV9' := hV9.anyOk (ok' := fun b => (okc b ∧ b < w.heap.size) ∨ D + 1 ≤ b) (fun q _ h => .inr (by omega))
      rw [← HW9.out] at hC9
      rw [← HO9.out] at hO9 hU9
      have hn9 := up_i64 num
      have hw9 : (ws ++ [up num]).length ≤ cws.length + (s + 1) := by rw [HW9.out]; omega
      have ho9 : (o2 ++ [(⟨s, ⟨1, up num, pl.ver, RI, []⟩⟩ : To)]).length ≤ s + 1 := by rw [HO9.out]; omega
      clear c1 c2 d1 d2 HTL
      go_wp2
      case roundEnd =>
        go_roundw
        case rel => exact ⟨s + 1, up num, ws ++ [up num], _, va9, vc9, oa9, oc9, by go_num, by omega, HE1, hw9, ho9, hn9, hC9, hV9', hO9, hU9, hFZ⟩
        case measure => simp [intOf] <;> omega
    --CUT13
    obtain rfl : s = t.n.toNat := by omega
    have b1 : ¬ ((t.n.toNat : Nat) : Int) < t.n := by omega
    have hEX := HE.out _ hS.out
    have HX := Lib.hid hEX
    have hno := hF.rep' hn7 (fun b hb => .inl ⟨by omega, by omega, by omega⟩)
    have hZo := hF.blk hZ7 (.inl ⟨by omega, by omega, by omega⟩)
    have hBo := hB7.trans hF.below
    clear hEX HE hS hF hT7 hZ7 hP7 hn7 hx7 hB7 d1 d2
    go_wp2_with fail
    have hrl9 : ws.length ≤ 2000000000 := by omega
    refine (refBegin_c ⟨1, cnow, pl, num, ws⟩ t _ okt o2 _ _ _ (.int .i64 pl.ver) p1 p2 va oa vc oc wo w.heap.size D (D + 1) w.heap.size (fun b => (okc b ∧ b < w.heap.size) ∨ (okl b ∧ b < w.heap.size) ∨ (w.heap.size + 3 ≤ b ∧ b < PB)) (fun b hb => ⟨by omega, by omega, by omega⟩) (fun b => (okc b ∧ b < w.heap.size) ∨ D + 1 ≤ b) (fun b hb => by omega) hC hno hxo hV hO hU (topoS.below hT hBo) (by omega) hn8 (show I64 1 from I64.small (by decide) (by decide)) hkn hps (by omega) (by omega) (by omega) (by omega) hrl9 (by omega) (Nat.le_refl _) (by omega)).mono ?_
    rintro e w6 ⟨rfl, m0, m1, m2, y0, y1, y2, va6, vc6, oa6, oc6, hC6, hn6, hx6, hv6, hO6, hU6, hst6, hnu6, hF6⟩
    generalize stepsOf ⟨1, cnow, pl, num, ws⟩ t = SR at *
    obtain ⟨⟨dst, dnow, dnext, dnum, dws⟩, so⟩ := SR
    dsimp only at *
    generalize o2 ++ so = SO at *
    have hZ6 := hF6.blk hZo (.inl ⟨by omega, by omega, by omega⟩)
    have hB6 := hBo.trans hF6.below
    have hs6 := hF6.size
    have hr6 := hU6.row (ok' := fun b => D + 1 ≤ b) (fun b hb => hb.1) (fun k hk => (hU6.lt k hk).1)
    obtain ⟨lr0, lr1, lr2⟩ := planC.st (P := Try.prog) hn6
    obtain ⟨lq0, lq1, lq2⟩ := planC.st (P := Try.prog) hx6
    obtain ⟨lm0, lm1, lm2⟩ := planC.one hn6
    obtain ⟨ly0, ly1, ly2⟩ := planC.one hx6
    have hS4 : SO5 D w.heap.size (.slice oa6 SO.length oc6) #[.int .i64 dst, m0, m1, m2, y0, y1, y2, .int .i64 dnum, .slice va6 dws.length vc6] w6 := SO5.of hO6 hC6
    have hS0 : SO5 D w.heap.size (.slice oa6 SO.length oc6) #[.int .i64 dst, m0, m1, m2, y0, y1, y2, .int .i64 dnum, .slice va6 dws.length vc6] w6.drew := hS4
    clear hC hO hV hU hno hxo hZo hBo hF6 hU6 c1 c2 t1 t2 hTb hPb
    go_wp2
    --CUT14
    refine wp_region_to (SO5 D w.heap.size (.slice oa6 SO.length oc6) #[.int .i64 dst, m0, m1, m2, y0, y1, y2, .int .i64 dnum, .slice va6 dws.length vc6]) 99 (fun a0 a' w' => ∃ v76 v77, a' = puts a0 [(76, v76), (77, v77), (7, .slice oa6 SO.length oc6), (8, .int .i64 0)] ∧ blockIs w' (w.heap.size + 1 + 1) 32 #[.int .i64 dst, m0, m1, m2, y0, y1, y2, .int .i64 dnum, .slice va6 dws.length vc6] ∧ Frm (fun b => b ≠ w.heap.size + 1 + 1) w.heap.size w6 w') (by kernel_rfl) ?_ ?_
    · intro Q' hR hQp
      have hb0 : Below w6.heap.size w6 w6.drew := by (repeat' (first | with_reducible exact Below.refl _ _ | with_reducible assumption | with_reducible refine Below.drew ?_ | with_reducible refine Below_drewN ?_ _ | with_reducible refine Below.alloc ?_ ?_ _ | with_reducible refine Below.setCell ?_ ?_ _ | omega | (simp; done) | (simp; omega)))
      have hS : SO5 D w.heap.size (.slice oa6 SO.length oc6) #[.int .i64 dst, m0, m1, m2, y0, y1, y2, .int .i64 dnum, .slice va6 dws.length vc6] w6.drew := hS0
      generalize w6.drew = wa at *
      have hZa := hZ6.under hb0
      have hCa := hC6.under hb0
      have hOa := hO6.under hb0
      obtain ⟨z1, z2⟩ := hZa.cells
      have hzl := hZa.lt
      have hsa := hb0.size
      refine wpAnyK_take' (i := 0) _ rfl (by kernel_rfl) (fun _ _ _ h => hQp _ _ _ _ h) hS (yields_value (by kernel_rfl) (by intro w0 hw0; have hw1 := hw0; simp only [SO5] at hw1; first | (go_simp; done) | (go_simp; rfl))) ?_; simp only [Act.put, List.getElem_toArray, List.getElem_cons_succ, List.getElem_cons_zero, List.setIfInBounds_toArray, List.set_cons_succ, List.set_cons_zero]
      refine wpAnyK_take' (i := 1) _ rfl (by kernel_rfl) (fun _ _ _ h => hQp _ _ _ _ h) hS (yields_value (by kernel_rfl) (by intro w0 hw0; have hw1 := hw0; simp only [SO5] at hw1; first | (go_simp; done) | (go_simp; rfl))) ?_; simp only [Act.put, List.getElem_toArray, List.getElem_cons_succ, List.getElem_cons_zero, List.setIfInBounds_toArray, List.set_cons_succ, List.set_cons_zero]
      clear hS
      refine wpAnyK_call (i := 2) rfl (by kernel_rfl) (by kernel_rfl) fun K2 hK2 => ?_
      go_simp
      go_wp2_with fail
      obtain ⟨G, FR⟩ := set9 hZa (fun b => b ≠ w.heap.size + 1 + 1) w.heap.size (fun h => h rfl) (by omega) (.int .i64 dst) m0 m1 m2 y0 y1 y2 (.int .i64 dnum) (.slice va6 dws.length vc6)
      have hS : _ := SO5.of (FR.blk hOa (.inl (by omega))) (FR.blk hCa (.inl (by omega)))
      refine hK2 _ _ (fun _ => hS) ?_
      clear hK2
      refine wpAnyK_take' (i := 3) _ rfl (by kernel_rfl) (fun _ _ _ h => hQp _ _ _ _ h) hS (yields_value (by kernel_rfl) (by intro w0 hw0; have hw1 := hw0; simp only [SO5] at hw1; first | (go_simp; done) | (go_simp; rfl))) ?_; simp only [Act.put, List.getElem_toArray, List.getElem_cons_succ, List.getElem_cons_zero, List.setIfInBounds_toArray, List.set_cons_succ, List.set_cons_zero]
      refine wpAnyK_take' (i := 4) _ rfl (by kernel_rfl) (fun _ _ _ h => hQp _ _ _ _ h) hS (yields_value (by kernel_rfl) (by intro w0 hw0; have hw1 := hw0; simp only [SO5] at hw1; first | (go_simp; done) | (go_simp; rfl))) ?_; simp only [Act.put, List.getElem_toArray, List.getElem_cons_succ, List.getElem_cons_zero, List.setIfInBounds_toArray, List.set_cons_succ, List.set_cons_zero]
      refine wpAnyK_done (by kernel_rfl) ?_ _
      refine hR _ _ ?_
      iterate 2 apply Exists.intro
      refine ⟨?_, ⟨G, (Frm.of hb0 (by omega)).trans FR⟩⟩
      simp only [puts, Act.put, List.setIfInBounds_toArray, List.set_cons_succ, List.set_cons_zero]
      rfl
    rintro a' w8 ⟨v76, v77, rfl, hb8⟩
    simp only [puts, Act.put, List.setIfInBounds_toArray, List.set_cons_succ, List.set_cons_zero]
    --CUT15
    obtain ⟨hZ9, FR9⟩ := hb8
    obtain ⟨z1, z2⟩ := hZ9.cells
    have hn9 := planS.anyOk (FR9.rep' hn6 (fun b hb => .inl (by omega))) (ok' := fun b => (okc b ∨ okl b) ∨ w.heap.size ≤ b) (fun b _ hh => by rcases hh with hh | hh | hh; exact .inl (.inl hh.1); exact .inl (.inr hh.1); exact .inr (by omega))
    have hx9 := planS.anyOk (FR9.rep' hx6 (fun b hb => .inl (by omega))) (ok' := fun b => (okc b ∨ okl b) ∨ w.heap.size ≤ b) (fun b _ hh => by rcases hh with hh | hh | hh; exact .inl (.inl hh.1); exact .inl (.inr hh.1); exact .inr (by omega))
    have hv9 := (FR9.row' hv6 (fun b hb => .inl (by omega))).anyOk (ok' := fun b => (okc b ∨ okl b) ∨ w.heap.size ≤ b) (fun b _ hh => by rcases hh with (hh | hh) | hh; exact .inl (.inl hh.1); exact .inr (by omega); exact .inr (by omega))
    have hr9 := (FR9.row' hr6 (fun b hb => .inl (by omega))).anyOk (ok' := fun b => (okc b ∨ okl b) ∨ w.heap.size ≤ b) (fun b _ hh => .inr (by omega))
    have hB9 := hB6.trans FR9.below
    have hk9 := ctlS.mk_ (c := ⟨dst, dnow, dnext, dnum, dws⟩) hst6 hnu6 hn9 hx9 hv9
    clear hn6 hx6 hv6 hr6 FR9 hZ6 hC6 hO6 hS0 hS4 hn9 hx9 hv9
    go_wp2_with ((with_reducible refine bodyPost_ret (v := .tuple #[.agg #[.int .i64 dst, m0, m1, m2, y0, y1, y2, .int .i64 dnum, .slice va6 dws.length vc6], .slice oa6 SO.length oc6, .int .i64 0]) ?ra4 ?rb4 ?rc4); go_must (case ra4 => simp [results, Try.results10, go_sem, z1]); go_must (case rb4 => rfl); go_must (case rc4 => refine ⟨?_, hB9⟩; rw [HX.out]; exact ⟨_, oa6, oc6, rfl, hk9, hr9⟩))

end Go.Proofs.Ytagldmdeohenjaa

/-
  The walk of the law ControlTells.
-/
set_option linter.unusedSimpArgs false
set_option linter.unusedVariables false
namespace Go.St
open Go.RowKit
theorem ask_len5 (c : Ctl) (t : Topo) (l : List Flow) : (ctlAsk c t l).2.1.length ≤ 1000 := by
  by_cases h0 : c.stage ≠ 0
  · unfold ctlAsk; rw [if_pos h0]; exact Nat.zero_le _
  by_cases h1 : (planOf t (up c.now.ver) l).2.1 ≠ 0
  · unfold ctlAsk; rw [if_neg h0, if_pos h1]; exact Nat.zero_le _
  have h8 := (plan_ok (Decidable.not_not.1 h1)).n8
  unfold ctlAsk; rw [if_neg h0, if_neg h1]
  split
  · exact Nat.zero_le _
  · show (_ ++ _ : List To).length ≤ _
    rw [List.length_append, (send_len _ _).1]
    have g1 := steps_len (send ⟨1, c.now, (planOf t (up c.now.ver) l).1, c.num, c.waits⟩ (addsOf (planOf t (up c.now.ver) l).1 t)).1 t
    have g2 : (addsOf (planOf t (up c.now.ver) l).1 t).length ≤ t.n.toNat := over_len (addAt_len _) _
    omega
theorem back_len5 (c : Ctl) (t : Topo) (n : Int) : (ctlBack c t n).2.1.length ≤ 1000 := by
  by_cases h0 : (topoWrong t).1 ≠ 0
  · unfold ctlBack; rw [if_pos h0]; exact Nat.zero_le _
  have h8 := (topo_right (Decidable.not_not.1 h0)).1.2.1
  unfold ctlBack; rw [if_neg h0]
  split
  · exact Nat.zero_le _
  · have g1 := fun c2 => steps_len c2 t
    exact Nat.le_trans (g1 _) (by omega)
theorem drop_len5 (c : Ctl) (t : Topo) : (ctlDrop c t).2.1.length ≤ 1000 := by
  by_cases h0 : (topoWrong t).1 ≠ 0
  · unfold ctlDrop; rw [if_pos h0]; exact Nat.zero_le _
  have h8 := (topo_right (Decidable.not_not.1 h0)).1.2.1
  unfold ctlDrop; rw [if_neg h0]
  split
  · exact Nat.zero_le _
  · show (_ ++ _ : List To).length ≤ _
    rw [List.length_append, (send_len _ _).1]
    have g1 := steps_len (send ⟨4, c.now, c.next, c.num, c.waits⟩ (gonesOf c.now t)).1 t
    have g2 : (gonesOf c.now t).length ≤ t.n.toNat := over_len (goneAt_len _) _
    omega
end Go.St
namespace Go.Proofs.Ytagldmdeohenjaa
open Go.RowKit Go.St

set_option maxRecDepth 100000 in
set_option maxHeartbeats 16000000 in
theorem controlTells_c (w : World) (c : Ctl) (cs : List Value) (okc : Nat → Prop) (h0 : ctlS.rep okc w cs c) (hsm : CtlSmall c) (t : Topo) (ts : List Value) (okt : Nat → Prop) (ht : topoS.rep okt w ts t) (l : List Flow) (fa : Option Addr) (fc : Nat) (okl : Nat → Prop) (hl0 : rowRep flowS okl w fa fc l) (num : Int) (hI : I64 num) :
    Calls Try.prog 4 #[.agg cs.toArray, .agg ts.toArray, .slice fa l.length fc, .int .i64 num] w fun e w' => e = .returned (.bool true) ∧ Below w.heap.size w w' := by
  have h := ctlS.anyOk h0 (ok' := fun b => okc b ∧ b < w.heap.size) (fun b hb h => ⟨h, hb⟩)
  have hl := hl0.anyOk (ok' := fun b => okl b ∧ b < w.heap.size) (fun b hb h => ⟨h, hb⟩)
  have hA1 := fun (w' : World) (hb : Below w.heap.size w w') => ask_c c t l _ _ _ _ _ fa fc w' (ctlS.below h hb) (topoS.below ht hb) (hl.below hb) hsm
  have hR1 := fun (w' : World) (hb : Below w.heap.size w w') => refAsk_c c t l _ _ _ _ _ fa fc w' (ctlS.below h hb) (topoS.below ht hb) (hl.below hb) hsm
  have hA2 := fun (w' : World) (hb : Below w.heap.size w w') => back_c c t num _ _ _ _ w' (ctlS.below h hb) (topoS.below ht hb) hsm
  have hR2 := fun (w' : World) (hb : Below w.heap.size w w') => refBack_c c t num _ _ _ _ w' (ctlS.below h hb) (topoS.below ht hb) hsm hI
  have hA3 := fun (w' : World) (hb : Below w.heap.size w w') => ctlDrop_c c t _ _ _ _ w' (ctlS.below h hb) (topoS.below ht hb) hsm
  have hR3 := fun (w' : World) (hb : Below w.heap.size w w') => refDrop_c c t _ _ _ _ w' (ctlS.below h hb) (topoS.below ht hb) hsm
  have hL1 := ask_len5 c t l
  have hL2 := back_len5 c t num
  have hL3 := drop_len5 c t
  generalize ctlAsk c t l = R1 at *
  generalize ctlBack c t num = R2 at *
  generalize ctlDrop c t = R3 at *
  obtain ⟨⟨st1, no1, ne1, nu1, ws1⟩, L1, er1⟩ := R1
  obtain ⟨⟨st2, no2, ne2, nu2, ws2⟩, L2, er2⟩ := R2
  obtain ⟨⟨st3, no3, ne3, nu3, ws3⟩, L3, er3⟩ := R3
  dsimp only at hL1 hL2 hL3
  obtain ⟨n0, n1, n2, x0, x1, x2, qa, qc, rfl, hst, hnu, hn, hx, hw⟩ := ctlS.open_ h
  obtain ⟨la, lc, rfl, htn, htr⟩ := ht
  obtain ⟨cst, cnow, cnext, cnum, cws⟩ := c
  dsimp only at *
  have HA1 := Lib.hid hA1
  have HR1 := Lib.hid hR1
  have HA2 := Lib.hid hA2
  have HR2 := Lib.hid hR2
  have HA3 := Lib.hid hA3
  have HR3 := Lib.hid hR3
  obtain ⟨lx0, lx1, lx2⟩ := hx.one
  obtain ⟨ln0, ln1, ln2⟩ := hn.one
  clear hA1 hA2 hA3 hR1 hR2 hR3 h0 hl0 hsm h hl htr hn hx hw
  have hB : Below w.heap.size w ((w.alloc (.cells #[.int .i64 cst, n0, n1, n2, x0, x1, x2, .int .i64 cnum, .slice qa cws.length qc] 32)).alloc (.cells #[.int .i64 t.n, .slice la t.links.length lc] 24)) := by (repeat' (first | with_reducible exact Below.refl _ _ | with_reducible assumption | with_reducible refine Below.drew ?_ | with_reducible refine Below_drewN ?_ _ | with_reducible refine Below.alloc ?_ ?_ _ | with_reducible refine Below.setCell ?_ ?_ _ | omega | (simp; done) | (simp; omega)))
  have hC : blockIs ((w.alloc (.cells #[.int .i64 cst, n0, n1, n2, x0, x1, x2, .int .i64 cnum, .slice qa cws.length qc] 32)).alloc (.cells #[.int .i64 t.n, .slice la t.links.length lc] 24)) w.heap.size 32 #[.int .i64 cst, n0, n1, n2, x0, x1, x2, .int .i64 cnum, .slice qa cws.length qc] := (blockIs.new rfl).alloc _
  have hT : blockIs ((w.alloc (.cells #[.int .i64 cst, n0, n1, n2, x0, x1, x2, .int .i64 cnum, .slice qa cws.length qc] 32)).alloc (.cells #[.int .i64 t.n, .slice la t.links.length lc] 24)) (w.heap.size + 1) 24 #[.int .i64 t.n, .slice la t.links.length lc] := blockIs.new (by simp)
  go_enter Try.func4, Try.ntmps4
  go_upto_region 1 with fail
  generalize ((w.alloc (.cells #[.int .i64 cst, n0, n1, n2, x0, x1, x2, .int .i64 cnum, .slice qa cws.length qc] 32)).alloc (.cells #[.int .i64 t.n, .slice la t.links.length lc] 24)) = w0 at *
  obtain ⟨c1, c2⟩ := hC.cells
  obtain ⟨t1, t2⟩ := hT.cells
  have hcl := hC.lt
  have htl := hT.lt
  go_wp2_with fail
  refine (HA1.out w0 hB).mono ?_
  rintro e w1 ⟨⟨ks, a1oa, a1oc, rfl, hk, hr⟩, g1⟩
  obtain ⟨a1m0, a1m1, a1m2, a1y0, a1y1, a1y2, a1va, a1vc, rfl, _, _, hm, hy, _⟩ := ctlS.open_ hk
  dsimp only at hk hr hm hy
  obtain ⟨a1lm0, a1lm1, a1lm2⟩ := planC.st (P := Try.prog) hm
  obtain ⟨a1ly0, a1ly1, a1ly2⟩ := planC.st (P := Try.prog) hy
  obtain ⟨a1om0, a1om1, a1om2⟩ := planC.one hm
  obtain ⟨a1oy0, a1oy1, a1oy2⟩ := planC.one hy
  have gs := g1.size
  have hC1 := hC.under g1
  have hT1 := hT.under g1
  have hB1 := hB.trans (g1.mono hB.size)
  have hx : Below w1.heap.size w1 (w1.alloc (.cells #[.int .i64 st1, a1m0, a1m1, a1m2, a1y0, a1y1, a1y2, .int .i64 nu1, .slice a1va ws1.length a1vc] 32)) := by (repeat' (first | with_reducible exact Below.refl _ _ | with_reducible assumption | with_reducible refine Below.drew ?_ | with_reducible refine Below_drewN ?_ _ | with_reducible refine Below.alloc ?_ ?_ _ | with_reducible refine Below.setCell ?_ ?_ _ | omega | (simp; done) | (simp; omega)))
  have hX2 : blockIs (w1.alloc (.cells #[.int .i64 st1, a1m0, a1m1, a1m2, a1y0, a1y1, a1y2, .int .i64 nu1, .slice a1va ws1.length a1vc] 32)) w1.heap.size 32 #[.int .i64 st1, a1m0, a1m1, a1m2, a1y0, a1y1, a1y2, .int .i64 nu1, .slice a1va ws1.length a1vc] := blockIs.new rfl
  have hk2 := ctlS.below hk hx
  have hr2 := hr.below hx
  have hC2 := hC1.under hx
  have hT2 := hT1.under hx
  have hB2 := hB1.trans (hx.mono hB1.size)
  have Xalo : w.heap.size + 2 ≤ w1.heap.size := by omega
  clear hk hr hm hy hC hT hB hx HA1
  clear c1 c2 t1 t2 hcl htl hB1
  --CUT1a
  go_upto_region 2 with fail
  generalize (w1.alloc (.cells #[.int .i64 st1, a1m0, a1m1, a1m2, a1y0, a1y1, a1y2, .int .i64 nu1, .slice a1va ws1.length a1vc] 32)) = w2 at *
  clear a1lm0 a1lm1 a1lm2 a1ly0 a1ly1 a1ly2 a1om0 a1om1 a1om2 a1oy0 a1oy1 a1oy2 hC1 hT1
  generalize w1.heap.size = Xa at *
  have hXa := hX2
  have hC := hC2
  have hT := hT2
  have hB := hB2
  have hka := hk2
  have hra := hr2
  clear hX2 hC2 hT2 hB2 hk2 hr2 g1 gs
  obtain ⟨c1, c2⟩ := hC.cells
  obtain ⟨t1, t2⟩ := hT.cells
  have hcl := hC.lt
  have htl := hT.lt
  go_wp2_with fail
  refine (HR1.out w2 hB).mono ?_
  rintro e w3 ⟨⟨ks, b1oa, b1oc, rfl, hk, hr⟩, g1⟩
  obtain ⟨b1m0, b1m1, b1m2, b1y0, b1y1, b1y2, b1va, b1vc, rfl, _, _, hm, hy, _⟩ := ctlS.open_ hk
  dsimp only at hk hr hm hy
  obtain ⟨b1lm0, b1lm1, b1lm2⟩ := planC.st (P := Try.prog) hm
  obtain ⟨b1ly0, b1ly1, b1ly2⟩ := planC.st (P := Try.prog) hy
  obtain ⟨b1om0, b1om1, b1om2⟩ := planC.one hm
  obtain ⟨b1oy0, b1oy1, b1oy2⟩ := planC.one hy
  have gs := g1.size
  have hC1 := hC.under g1
  have hT1 := hT.under g1
  have hB1 := hB.trans (g1.mono hB.size)
  have hXa1 := hXa.under g1
  have hka1 := ctlS.below hka g1
  have hra1 := hra.below g1
  have hx : Below w3.heap.size w3 (w3.alloc (.cells #[.int .i64 st1, b1m0, b1m1, b1m2, b1y0, b1y1, b1y2, .int .i64 nu1, .slice b1va ws1.length b1vc] 32)) := by (repeat' (first | with_reducible exact Below.refl _ _ | with_reducible assumption | with_reducible refine Below.drew ?_ | with_reducible refine Below_drewN ?_ _ | with_reducible refine Below.alloc ?_ ?_ _ | with_reducible refine Below.setCell ?_ ?_ _ | omega | (simp; done) | (simp; omega)))
  have hX2 : blockIs (w3.alloc (.cells #[.int .i64 st1, b1m0, b1m1, b1m2, b1y0, b1y1, b1y2, .int .i64 nu1, .slice b1va ws1.length b1vc] 32)) w3.heap.size 32 #[.int .i64 st1, b1m0, b1m1, b1m2, b1y0, b1y1, b1y2, .int .i64 nu1, .slice b1va ws1.length b1vc] := blockIs.new rfl
  have hk2 := ctlS.below hk hx
  have hr2 := hr.below hx
  have hC2 := hC1.under hx
  have hT2 := hT1.under hx
  have hB2 := hB1.trans (hx.mono hB1.size)
  have hXa2 := hXa1.under hx
  have hka2 := ctlS.below hka1 hx
  have hra2 := hra1.below hx
  have Xab := hXa1.lt
  have Xblo : w.heap.size + 2 ≤ w3.heap.size := by omega
  clear hk hr hm hy hC hT hB hx HR1 hXa hka hra hka1 hra1
  clear c1 c2 t1 t2 hcl htl hB1
  --CUT1b
  go_upto_region 3 with fail
  generalize (w3.alloc (.cells #[.int .i64 st1, b1m0, b1m1, b1m2, b1y0, b1y1, b1y2, .int .i64 nu1, .slice b1va ws1.length b1vc] 32)) = w4 at *
  clear b1lm0 b1lm1 b1lm2 b1ly0 b1ly1 b1ly2 b1om0 b1om1 b1om2 b1oy0 b1oy1 b1oy2 hC1 hT1 hXa1
  generalize w3.heap.size = Xb at *
  have hXb := hX2
  have hC := hC2
  have hT := hT2
  have hB := hB2
  have hXa := hXa2
  have hka := hka2
  have hra := hra2
  have hkb := hk2
  have hrb := hr2
  clear hX2 hC2 hT2 hB2 hk2 hr2 g1 gs hXa2 hka2 hra2
  obtain ⟨a1, a2⟩ := hXa.cells
  obtain ⟨b1, b2⟩ := hXb.cells
  have hal := hXa.lt
  have hbl := hXb.lt
  have he : (er1 != er1) = false := by simp
  --CUT1c
  go_wp2_with fail
  refine (sameCtl_c _ _ _ _ _ w4 hka hkb).mono ?_
  rintro e w5 ⟨rfl, g5⟩
  have hra5 := hra.below g5
  have hrb5 := hrb.below g5
  go_wp2_with fail
  refine (tos_c L1 a1oa a1oc _ w5 hra5 hL1).mono ?_
  rintro e w6 ⟨ta, tc, rfl, ht6, g6⟩
  have hrb6 := hrb5.below g6
  go_wp2_with fail
  refine (sameTo_c L1 ta b1oa tc b1oc _ _ w6 ht6 hrb6).mono ?_
  rintro e w7 ⟨rfl, g7⟩
  have h56 := g5.trans (g6.mono g5.size)
  have h57 := h56.trans (g7.mono h56.size)
  replace hC := hC.under h57
  replace hT := hT.under h57
  replace hXa := hXa.under h57
  replace hXb := hXb.under h57
  replace hB := hB.trans (h57.mono hB.size)
  clear a1 a2 b1 b2 hal hbl he g5 g6 g7 h56 h57 hra5 hrb5 hrb6 ht6 hka hkb hra hrb hL1
  go_upto_region 5 with fail
  obtain ⟨c1, c2⟩ := hC.cells
  obtain ⟨t1, t2⟩ := hT.cells
  have hcl := hC.lt
  have htl := hT.lt
  go_wp2_with fail
  refine (HA2.out w7 hB).mono ?_
  rintro e w8 ⟨⟨ks, a2oa, a2oc, rfl, hk, hr⟩, g1⟩
  obtain ⟨a2m0, a2m1, a2m2, a2y0, a2y1, a2y2, a2va, a2vc, rfl, _, _, hm, hy, _⟩ := ctlS.open_ hk
  dsimp only at hk hr hm hy
  obtain ⟨a2lm0, a2lm1, a2lm2⟩ := planC.st (P := Try.prog) hm
  obtain ⟨a2ly0, a2ly1, a2ly2⟩ := planC.st (P := Try.prog) hy
  obtain ⟨a2om0, a2om1, a2om2⟩ := planC.one hm
  obtain ⟨a2oy0, a2oy1, a2oy2⟩ := planC.one hy
  have gs := g1.size
  have hC1 := hC.under g1
  have hT1 := hT.under g1
  have hB1 := hB.trans (g1.mono hB.size)
  have hXb1 := hXb.under g1
  have hX1 := hXa.under g1
  have hxl0 := hXa.lt
  have hbS := hXb.lt
  obtain ⟨a1, a2⟩ := hX1.cells
  have hxl := hX1.lt
  obtain ⟨hX2, hx⟩ := set9 hX1 (fun b => b ≠ Xa) w.heap.size (fun h => h rfl) (by omega) (.int .i64 st2) a2m0 a2m1 a2m2 a2y0 a2y1 a2y2 (.int .i64 nu2) (.slice a2va ws2.length a2vc)
  have hk2 := hx.rep' hk (fun b hb => .inl (by omega))
  have hr2 := hx.row' hr (fun b hb => .inl (by omega))
  have hC2 := hx.blk hC1 (.inl (by omega))
  have hT2 := hx.blk hT1 (.inl (by omega))
  have hB2 := hB1.trans hx.below
  have hXb2 := hx.blk hXb1 (.inl (by omega))
  clear hk hr hm hy hC hT hB hx HA2 hXa hXb
  clear c1 c2 t1 t2 hcl htl hB1
  --CUT2a
  go_upto_region 6 with fail
  generalize (((((((((w8.setCell ⟨Xa, 0, none⟩ (.int .i64 st2)).setCell ⟨Xa, 1, none⟩ a2m0).setCell ⟨Xa, 2, none⟩ a2m1).setCell ⟨Xa, 3, none⟩ a2m2).setCell ⟨Xa, 4, none⟩ a2y0).setCell ⟨Xa, 5, none⟩ a2y1).setCell ⟨Xa, 6, none⟩ a2y2).setCell ⟨Xa, 7, none⟩ (.int .i64 nu2)).setCell ⟨Xa, 8, none⟩ (.slice a2va ws2.length a2vc)) = w9 at *
  clear a2lm0 a2lm1 a2lm2 a2ly0 a2ly1 a2ly2 a2om0 a2om1 a2om2 a2oy0 a2oy1 a2oy2 hC1 hT1 hXb1 hX1 a1 a2
  have hXa := hX2
  have hC := hC2
  have hT := hT2
  have hB := hB2
  have hXb := hXb2
  have hka := hk2
  have hra := hr2
  clear hX2 hC2 hT2 hB2 hk2 hr2 g1 gs hXb2 hxl0 hxl
  obtain ⟨c1, c2⟩ := hC.cells
  obtain ⟨t1, t2⟩ := hT.cells
  have hcl := hC.lt
  have htl := hT.lt
  go_wp2_with fail
  refine (HR2.out w9 hB).mono ?_
  rintro e w10 ⟨⟨ks, b2oa, b2oc, rfl, hk, hr⟩, g1⟩
  obtain ⟨b2m0, b2m1, b2m2, b2y0, b2y1, b2y2, b2va, b2vc, rfl, _, _, hm, hy, _⟩ := ctlS.open_ hk
  dsimp only at hk hr hm hy
  obtain ⟨b2lm0, b2lm1, b2lm2⟩ := planC.st (P := Try.prog) hm
  obtain ⟨b2ly0, b2ly1, b2ly2⟩ := planC.st (P := Try.prog) hy
  obtain ⟨b2om0, b2om1, b2om2⟩ := planC.one hm
  obtain ⟨b2oy0, b2oy1, b2oy2⟩ := planC.one hy
  have gs := g1.size
  have hC1 := hC.under g1
  have hT1 := hT.under g1
  have hB1 := hB.trans (g1.mono hB.size)
  have hXa1 := hXa.under g1
  have hka1 := ctlS.below hka g1
  have hra1 := hra.below g1
  have hX1 := hXb.under g1
  have hxl0 := hXb.lt
  obtain ⟨a1, a2⟩ := hX1.cells
  have hxl := hX1.lt
  obtain ⟨hX2, hx⟩ := set9 hX1 (fun b => b ≠ Xb) w.heap.size (fun h => h rfl) (by omega) (.int .i64 st2) b2m0 b2m1 b2m2 b2y0 b2y1 b2y2 (.int .i64 nu2) (.slice b2va ws2.length b2vc)
  have hk2 := hx.rep' hk (fun b hb => .inl (by omega))
  have hr2 := hx.row' hr (fun b hb => .inl (by omega))
  have hC2 := hx.blk hC1 (.inl (by omega))
  have hT2 := hx.blk hT1 (.inl (by omega))
  have hB2 := hB1.trans hx.below
  have hXa2 := hx.blk hXa1 (.inl (by omega))
  have hka2 := hx.rep' hka1 (fun b hb => .inl (by omega))
  have hra2 := hx.row' hra1 (fun b hb => .inl (by omega))
  clear hk hr hm hy hC hT hB hx HR2 hXb hXa hka hra hka1 hra1
  clear c1 c2 t1 t2 hcl htl hB1
  --CUT2b
  go_upto_region 7 with fail
  generalize (((((((((w10.setCell ⟨Xb, 0, none⟩ (.int .i64 st2)).setCell ⟨Xb, 1, none⟩ b2m0).setCell ⟨Xb, 2, none⟩ b2m1).setCell ⟨Xb, 3, none⟩ b2m2).setCell ⟨Xb, 4, none⟩ b2y0).setCell ⟨Xb, 5, none⟩ b2y1).setCell ⟨Xb, 6, none⟩ b2y2).setCell ⟨Xb, 7, none⟩ (.int .i64 nu2)).setCell ⟨Xb, 8, none⟩ (.slice b2va ws2.length b2vc)) = w11 at *
  clear b2lm0 b2lm1 b2lm2 b2ly0 b2ly1 b2ly2 b2om0 b2om1 b2om2 b2oy0 b2oy1 b2oy2 hC1 hT1 hXa1 hX1 a1 a2
  have hXb := hX2
  have hC := hC2
  have hT := hT2
  have hB := hB2
  have hXa := hXa2
  have hka := hka2
  have hra := hra2
  have hkb := hk2
  have hrb := hr2
  clear hX2 hC2 hT2 hB2 hk2 hr2 g1 gs hXa2 hka2 hra2 hxl0 hxl hbS
  obtain ⟨a1, a2⟩ := hXa.cells
  obtain ⟨b1, b2⟩ := hXb.cells
  have hal := hXa.lt
  have hbl := hXb.lt
  have he : (er2 != er2) = false := by simp
  --CUT2c
  go_wp2_with fail
  refine (sameCtl_c _ _ _ _ _ w11 hka hkb).mono ?_
  rintro e w12 ⟨rfl, g5⟩
  have hra5 := hra.below g5
  have hrb5 := hrb.below g5
  go_wp2_with fail
  refine (tos_c L2 a2oa a2oc _ w12 hra5 hL2).mono ?_
  rintro e w13 ⟨ta, tc, rfl, ht6, g6⟩
  have hrb6 := hrb5.below g6
  go_wp2_with fail
  refine (sameTo_c L2 ta b2oa tc b2oc _ _ w13 ht6 hrb6).mono ?_
  rintro e w14 ⟨rfl, g7⟩
  have h56 := g5.trans (g6.mono g5.size)
  have h57 := h56.trans (g7.mono h56.size)
  replace hC := hC.under h57
  replace hT := hT.under h57
  replace hXa := hXa.under h57
  replace hXb := hXb.under h57
  replace hB := hB.trans (h57.mono hB.size)
  clear a1 a2 b1 b2 hal hbl he g5 g6 g7 h56 h57 hra5 hrb5 hrb6 ht6 hka hkb hra hrb hL2
  go_upto_region 9 with fail
  obtain ⟨c1, c2⟩ := hC.cells
  obtain ⟨t1, t2⟩ := hT.cells
  have hcl := hC.lt
  have htl := hT.lt
  go_wp2_with fail
  refine (HA3.out w14 hB).mono ?_
  rintro e w15 ⟨⟨ks, a3oa, a3oc, rfl, hk, hr⟩, g1⟩
  obtain ⟨a3m0, a3m1, a3m2, a3y0, a3y1, a3y2, a3va, a3vc, rfl, _, _, hm, hy, _⟩ := ctlS.open_ hk
  dsimp only at hk hr hm hy
  obtain ⟨a3lm0, a3lm1, a3lm2⟩ := planC.st (P := Try.prog) hm
  obtain ⟨a3ly0, a3ly1, a3ly2⟩ := planC.st (P := Try.prog) hy
  obtain ⟨a3om0, a3om1, a3om2⟩ := planC.one hm
  obtain ⟨a3oy0, a3oy1, a3oy2⟩ := planC.one hy
  have gs := g1.size
  have hC1 := hC.under g1
  have hT1 := hT.under g1
  have hB1 := hB.trans (g1.mono hB.size)
  have hXb1 := hXb.under g1
  have hX1 := hXa.under g1
  have hxl0 := hXa.lt
  have hbS := hXb.lt
  obtain ⟨a1, a2⟩ := hX1.cells
  have hxl := hX1.lt
  obtain ⟨hX2, hx⟩ := set9 hX1 (fun b => b ≠ Xa) w.heap.size (fun h => h rfl) (by omega) (.int .i64 st3) a3m0 a3m1 a3m2 a3y0 a3y1 a3y2 (.int .i64 nu3) (.slice a3va ws3.length a3vc)
  have hk2 := hx.rep' hk (fun b hb => .inl (by omega))
  have hr2 := hx.row' hr (fun b hb => .inl (by omega))
  have hC2 := hx.blk hC1 (.inl (by omega))
  have hT2 := hx.blk hT1 (.inl (by omega))
  have hB2 := hB1.trans hx.below
  have hXb2 := hx.blk hXb1 (.inl (by omega))
  clear hk hr hm hy hC hT hB hx HA3 hXa hXb
  clear c1 c2 t1 t2 hcl htl hB1
  --CUT3a
  go_upto_region 10 with fail
  generalize (((((((((w15.setCell ⟨Xa, 0, none⟩ (.int .i64 st3)).setCell ⟨Xa, 1, none⟩ a3m0).setCell ⟨Xa, 2, none⟩ a3m1).setCell ⟨Xa, 3, none⟩ a3m2).setCell ⟨Xa, 4, none⟩ a3y0).setCell ⟨Xa, 5, none⟩ a3y1).setCell ⟨Xa, 6, none⟩ a3y2).setCell ⟨Xa, 7, none⟩ (.int .i64 nu3)).setCell ⟨Xa, 8, none⟩ (.slice a3va ws3.length a3vc)) = w16 at *
  clear a3lm0 a3lm1 a3lm2 a3ly0 a3ly1 a3ly2 a3om0 a3om1 a3om2 a3oy0 a3oy1 a3oy2 hC1 hT1 hXb1 hX1 a1 a2
  have hXa := hX2
  have hC := hC2
  have hT := hT2
  have hB := hB2
  have hXb := hXb2
  have hka := hk2
  have hra := hr2
  clear hX2 hC2 hT2 hB2 hk2 hr2 g1 gs hXb2 hxl0 hxl
  obtain ⟨c1, c2⟩ := hC.cells
  obtain ⟨t1, t2⟩ := hT.cells
  have hcl := hC.lt
  have htl := hT.lt
  go_wp2_with fail
  refine (HR3.out w16 hB).mono ?_
  rintro e w17 ⟨⟨ks, b3oa, b3oc, rfl, hk, hr⟩, g1⟩
  obtain ⟨b3m0, b3m1, b3m2, b3y0, b3y1, b3y2, b3va, b3vc, rfl, _, _, hm, hy, _⟩ := ctlS.open_ hk
  dsimp only at hk hr hm hy
  obtain ⟨b3lm0, b3lm1, b3lm2⟩ := planC.st (P := Try.prog) hm
  obtain ⟨b3ly0, b3ly1, b3ly2⟩ := planC.st (P := Try.prog) hy
  obtain ⟨b3om0, b3om1, b3om2⟩ := planC.one hm
  obtain ⟨b3oy0, b3oy1, b3oy2⟩ := planC.one hy
  have gs := g1.size
  have hC1 := hC.under g1
  have hT1 := hT.under g1
  have hB1 := hB.trans (g1.mono hB.size)
  have hXa1 := hXa.under g1
  have hka1 := ctlS.below hka g1
  have hra1 := hra.below g1
  have hX1 := hXb.under g1
  have hxl0 := hXb.lt
  obtain ⟨a1, a2⟩ := hX1.cells
  have hxl := hX1.lt
  obtain ⟨hX2, hx⟩ := set9 hX1 (fun b => b ≠ Xb) w.heap.size (fun h => h rfl) (by omega) (.int .i64 st3) b3m0 b3m1 b3m2 b3y0 b3y1 b3y2 (.int .i64 nu3) (.slice b3va ws3.length b3vc)
  have hk2 := hx.rep' hk (fun b hb => .inl (by omega))
  have hr2 := hx.row' hr (fun b hb => .inl (by omega))
  have hC2 := hx.blk hC1 (.inl (by omega))
  have hT2 := hx.blk hT1 (.inl (by omega))
  have hB2 := hB1.trans hx.below
  have hXa2 := hx.blk hXa1 (.inl (by omega))
  have hka2 := hx.rep' hka1 (fun b hb => .inl (by omega))
  have hra2 := hx.row' hra1 (fun b hb => .inl (by omega))
  clear hk hr hm hy hC hT hB hx HR3 hXb hXa hka hra hka1 hra1
  clear c1 c2 t1 t2 hcl htl hB1
  --CUT3b
  go_upto_region 11 with fail
  generalize (((((((((w17.setCell ⟨Xb, 0, none⟩ (.int .i64 st3)).setCell ⟨Xb, 1, none⟩ b3m0).setCell ⟨Xb, 2, none⟩ b3m1).setCell ⟨Xb, 3, none⟩ b3m2).setCell ⟨Xb, 4, none⟩ b3y0).setCell ⟨Xb, 5, none⟩ b3y1).setCell ⟨Xb, 6, none⟩ b3y2).setCell ⟨Xb, 7, none⟩ (.int .i64 nu3)).setCell ⟨Xb, 8, none⟩ (.slice b3va ws3.length b3vc)) = w18 at *
  clear b3lm0 b3lm1 b3lm2 b3ly0 b3ly1 b3ly2 b3om0 b3om1 b3om2 b3oy0 b3oy1 b3oy2 hC1 hT1 hXa1 hX1 a1 a2
  have hXb := hX2
  have hC := hC2
  have hT := hT2
  have hB := hB2
  have hXa := hXa2
  have hka := hka2
  have hra := hra2
  have hkb := hk2
  have hrb := hr2
  clear hX2 hC2 hT2 hB2 hk2 hr2 g1 gs hXa2 hka2 hra2 hxl0 hxl hbS
  obtain ⟨a1, a2⟩ := hXa.cells
  obtain ⟨b1, b2⟩ := hXb.cells
  have hal := hXa.lt
  have hbl := hXb.lt
  have he : (er3 == er3) = true := by simp
  --CUT3c
  go_wp2_with fail
  refine (sameCtl_c _ _ _ _ _ w18 hka hkb).mono ?_
  rintro e w19 ⟨rfl, g5⟩
  have hra5 := hra.below g5
  have hrb5 := hrb.below g5
  go_wp2_with fail
  refine (tos_c L3 a3oa a3oc _ w19 hra5 hL3).mono ?_
  rintro e w20 ⟨ta, tc, rfl, ht6, g6⟩
  have hrb6 := hrb5.below g6
  go_wp2_with fail
  refine (sameTo_c L3 ta b3oa tc b3oc _ _ w20 ht6 hrb6).mono ?_
  rintro e w21 ⟨rfl, g7⟩
  have h56 := g5.trans (g6.mono g5.size)
  have h57 := h56.trans (g7.mono h56.size)
  have hB7 := hB.trans (h57.mono hB.size)
  clear a1 a2 b1 b2 hal hbl g5 g6 g7 h56 h57 hra5 hrb5 hrb6 ht6 hka hkb hra hrb hC hT hXa hXb
  go_wp2
  go_ret; exact ⟨rfl, hB7⟩

end Go.Proofs.Ytagldmdeohenjaa
