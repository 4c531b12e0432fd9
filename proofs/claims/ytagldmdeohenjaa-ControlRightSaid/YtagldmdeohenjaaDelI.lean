/-
  The walk of slices.Delete of one number, at a row of the call's own.
-/
import Derived.Test.YtagldmdeohenjaaCtlB
import Derived.Test.YtagldmdeohenjaaSlices
import Derived.Test.YtagldmdeohenjaaRowR
import Derived.Test.YtagldmdeohenjaaTo
import Derived.WalkKit
import Derived.WalkSpells
import Derived.WalkLawsBesides
import Derived.Lib.Hide
import Derived.Deep.LoopGhost
import Derived.Deep.QuietTactic
import Derived.BigQuiet
import Derived.Deep.RegionWith
import Derived.Handy
set_option linter.unusedSimpArgs false
set_option linter.unusedVariables false
namespace Go.St
open Go.RowKit
section
variable {α : Type} {sh : Shape α} {e : TypeId} {ok : Nat → Prop} {base : Nat} {w : World} {ao : Option Addr} {n cap : Nat} {xs : List α}
theorem ownR.first (h : ownR sh e ok base w ao n cap xs) {i : Nat} (hi : i ≤ n) : ownR sh e ok base w ao i cap (xs.take i) := by
  obtain ⟨cells, ⟨hc, hle, hm, h6⟩, rfl, h3, h4, h5⟩ := h
  have hm2 : i * sh.size ≤ xs.length * sh.size := Nat.mul_le_mul_right _ hi
  refine ⟨cells.take (i * sh.size), ⟨by rw [List.length_take]; omega, by omega, hm, h6.imp id ?_⟩, by rw [List.length_take]; omega, ?_, h4, h5⟩
  · rintro ⟨g, cur, e1, e2, e3, e4, e5⟩
    refine ⟨g, cur, e1, e2, e3, e4, ?_⟩
    rw [← e5, List.take_take, Nat.min_eq_left hm2]
  · intro k x hx
    rw [List.getElem?_take] at hx
    split at hx
    case isFalse => cases hx
    case isTrue hk =>
      have hq : chunk sh.size (cells.take (i * sh.size)) k = chunk sh.size cells k := by
        have := Nat.mul_le_mul_right sh.size hk
        rw [Nat.succ_mul] at this
        unfold chunk
        rw [List.drop_take, List.take_take, Nat.min_eq_left (by omega)]
      rw [hq]
      exact h3 k x hx
/-- a cell behind the elements is turned -/
theorem ownR.beyond {g : Nat} (h : ownR sh e ok base w (some ⟨g, 0, none⟩) n cap xs) {j : Nat} (hj : n * sh.size ≤ j) (v : Value) : ownR sh e ok base (w.setCell ⟨g, j, none⟩ v) (some ⟨g, 0, none⟩) n cap xs := by
  have hng := h.not g rfl
  obtain ⟨cells, ⟨hc, hle, hm, h6⟩, rfl, h3, h4, h5⟩ := h
  rcases h6 with ⟨h6, _⟩ | ⟨g', cur, hg', hb, hg, hs, ht⟩
  · cases h6
  obtain rfl : g = g' := by simpa using hg'
  refine ⟨cells, ⟨hc, hle, hm, .inr ⟨g, cur.setIfInBounds j v, rfl, hb, ?_, by simpa using hs, ?_⟩⟩, rfl, fun k x hx => sh.mono (h3 k x hx) fun b _ hb => ⟨hb, Below.heap_setCell _ _ _ _ (fun e1 => hng (by have e2 : b = g := e1; rw [← e2]; exact hb))⟩, h4, fun b hb => by simpa using h5 b hb⟩
  · have : w.heap[g]? = some (.cells cur e (0, 0)) := hg
    simp [World.setCell, Array.getElem?_modify, this]
  · rw [Array.toList_setIfInBounds, List.take_set_of_le hj, ht]
theorem ownR.cellAny {g : Nat} (h : ownR sh e ok base w (some ⟨g, 0, none⟩) n cap xs) {j : Nat} (hj : j < cap * sh.size) : (∃ v, w.cell? ⟨g, j, none⟩ = some v) ∧ w.frozen? ⟨g, j, none⟩ = false := by
  obtain ⟨cells, ⟨hc, hle, hm, h6⟩, rfl, h3, h4, h5⟩ := h
  rcases h6 with ⟨h6, _⟩ | ⟨g', cur, hg', hb, hg, hs, ht⟩
  · cases h6
  obtain rfl : g = g' := by simpa using hg'
  have hlt : j < cur.size := by rw [hs]; exact hj
  refine ⟨⟨cur[j], ?_⟩, ?_⟩
  · simp [World.cell?, hg, hlt]
  · simp [World.frozen?, hg]
theorem ownR.behind {g : Nat} (h : ownR sh e ok base w (some ⟨g, 0, none⟩) n cap xs) (k : Nat) (hk : k ≤ n) : srcRep sh ok w (some ⟨g, k * sh.size, none⟩) (xs.drop k) := by
  obtain ⟨cells, h1, rfl, h3, h4, h5⟩ := h
  refine .inr ⟨g, k * sh.size, rfl, fun i x hx => ?_⟩
  rw [List.getElem?_drop] at hx
  refine ⟨_, h3 _ x hx, fun j c hj => ?_⟩
  have := h1.cell rfl _ _ (chunk_get hj)
  rwa [show k * sh.size + i * sh.size + j = (k + i) * sh.size + j by rw [Nat.add_mul]]
end
section
variable {P : Program} {w : World}
/-- appended where there is room, as an operation of the walk -/
theorem wp_appRoom {α : Type} {sh : Shape α} {o : Oper} {a : Act} {K : Act → World → Prop} {Q : Exit → Act → World → Prop} (s x : Operand) (t : TypeId)
    (ho : o.op = .call { callee := .builtin .append, args := #[s, x], argTypes := #[t, t] })
    (e : TypeId) (i : TypeInfo) (ht : P.underlying t = some (.slice e)) (hi : P.info? e = some i)
    (hsize : i.size = sh.size) (hsz : 0 < sh.size) {ok : Nat → Prop} {base : Nat}
    {ao : Option Addr} {n cap : Nat} {xs : List α} (hs : a.eval s = .slice ao n cap) (hown : ownR sh e ok base w ao n cap xs)
    {ax : Option Addr} {m c : Nat} {ys : List α} (hx : a.eval x = .slice ax m c) (hm : ys.length = m) (hsrc : srcRep sh ok w ax ys) (hroom : n + m ≤ cap)
    (h : ∀ w', ownR sh e ok base w' ao (n + m) cap (xs ++ ys) → w.grownBy w' (blk ao) → K (a.put o.dst (.slice ao (n + m) cap)) w') : o.wp P a w K Q := by
  obtain ⟨w', hr, h2, h3⟩ := run_appRoomR (P := P) t o.type e i ht hi hsize hsz hown (c := c) hm hsrc hroom
  unfold Oper.wp execOp
  simp only [ho, resolve, invoke, builtin, Sem.run_bind, Sem.run_pure, Result.andThen_ok, List.map_toArray, List.map_cons, List.map_nil, hs, hx, hr]
  exact h w' h2 h3
theorem run_clear_one {t e ty : TypeId} {i : TypeInfo} {g k c : Nat} {v : Value} (ht : P.underlying t = some (.slice e)) (hi : P.info? e = some i) (hz : i.zero = some (.int .i64 0)) (hc : w.cell? ⟨g, k, none⟩ = some v) (hf : w.frozen? ⟨g, k, none⟩ = false) :
    (Builtin.clear_ #[t] ty #[.slice (some ⟨g, k, none⟩) 1 c]).run P w = .ok (.tuple #[]) (w.setCell ⟨g, k, none⟩ (.int .i64 0)) := by
  simp [Builtin.clear_, run_underlying ht, zeroValue, typeInfo, hi, hz, Builtin.zeroCells, storeCells, go_sem, hc, hf, Value.cells]
end
/-- a row is no string's -/
def SG (g : Nat) (w : World) : Prop := w.frozen? ⟨g, 0, none⟩ = false
end Go.St
namespace Go.Proofs.Ytagldmdeohenjaa
open Go.RowKit Go.St

set_option maxRecDepth 100000 in
set_option maxHeartbeats 16000000 in
theorem delete1_c (W : Nat → Prop) (B : Nat) (ws : List Int) (i : Nat) (wa : Option Addr) (wc n : Nat) (w : World) (h : ownR intS 3 W B w wa n wc ws) (hB : B ≤ w.heap.size) (hi : i < n) (hn : n ≤ 10000000000) :
    Calls Try.prog 28 #[.slice wa n wc, .int .i64 i, .int .i64 ((i : Int) + 1)] w fun e w' => e = .returned (.slice wa (n - 1) wc) ∧ ownR intS 3 W B w' wa (n - 1) wc (ws.eraseIdx i) ∧ Frm (fun b => blk wa ≠ some b) B w w' := by
  obtain ⟨x, hx⟩ : ∃ x, ws[i]? = some x := ⟨_, List.getElem?_eq_getElem (by have := h.len_eq; omega)⟩
  obtain ⟨g, cs, rfl, hgB, hgl, hgW, hdr, hdc, hdf, cur, hdh⟩ := h.at hx
  have hlen := h.len_eq
  have hcap : n ≤ wc ∧ wc ≤ maxLen := by obtain ⟨_, ⟨_, h1, h2, _⟩, _⟩ := h; exact ⟨h1, h2⟩
  simp only [maxLen] at hcap
  obtain ⟨i0, hi0, hz0, hz1, hz2⟩ := info_parts info_int
  have hxd : ws.eraseIdx i = ws.take i ++ ws.drop (i + 1) := List.eraseIdx_eq_take_drop_succ ws i
  have hfirst := h.first (Nat.le_of_lt hi)
  have hbeh := h.behind (i + 1) hi
  have hdl : (ws.drop (i + 1)).length = n - (i + 1) := by rw [List.length_drop]; omega
  have HDL := Lib.hid hdl
  have HXD := Lib.hid hxd
  have hmx : Hid (i + (n - (i + 1)) = n - 1) := by show _ = _; omega
  clear hx hdr hdc hxd hdl hlen
  have b0 : (0 : Int) ≤ (i : Int) := by omega
  have b1 : (i : Int) ≤ (i : Int) + 1 := by omega
  have b2 : (i : Int) + 1 ≤ (n : Int) := by omega
  have b3 : (n : Int) ≤ (wc : Int) := by omega
  have b4 : ((i : Int) == (i : Int) + 1) = false := by rw [beq_eq_false_iff_ne]; omega
  have b5 : (i : Int) ≤ (wc : Int) := by omega
  have b6 : ((i : Int) + 1).toNat = i + 1 := by omega
  have b7 : (0 : Int) ≤ (i : Int) + 1 := by omega
  by_cases hcw : wc = i + 1
  case' pos =>
    obtain rfl : n = i + 1 := by omega
    subst hcw
    have hd0 : ws.drop (i + 1) = [] := List.eq_nil_of_length_eq_zero (by rw [HDL.out]; omega)
    have b8 : ((i : Int) + 1 - ((i : Int) + 1)).toNat = 0 := by omega
    have HXE : Hid (ws.eraseIdx i = ws.take i ++ []) := by show _ = _; rw [HXD.out, hd0]
    have hsrc : srcRep intS W w (some ⟨g, (i + 1) * intS.size, none⟩) [] := .inl rfl
    have hml : ([] : List Int).length = 0 := rfl
    clear hd0 hbeh
  case' neg =>
    have b8 : ¬ wc = i + 1 := hcw
    have HXE := HXD
    have hsrc := hbeh
    have hml := HDL.out
    clear hbeh hcw
  · have HML := Lib.hid hml
    clear hml
    go_enter Try.func28, Try.ntmps28
    go_wp2
    have hS0 : SG g w.drew := hdf 0
    refine wp_region_to (SG g) 99 (fun a0 a' w' => ∃ v20 v21 v22 v23 v24 v25, a' = puts a0 [(20, v20), (21, v21), (22, v22), (23, v23), (24, v24), (25, v25), (0, .slice (some ⟨g, 0, none⟩) (i + (n - (i + 1))) wc), (26, .slice (some ⟨g, 0, none⟩) (i + (n - (i + 1))) wc)] ∧ ownR intS 3 W B w' (some ⟨g, 0, none⟩) (i + (n - (i + 1))) wc (ws.take i ++ (ws.drop (i + 1))) ∧ Frm (fun b => blk (some ⟨g, 0, none⟩) ≠ some b) B w w') (by kernel_rfl) ?_ ?_
    · intro Q' hR hQp
      have hb0 : Below w.heap.size w w.drew := by (repeat' (first | with_reducible exact Below.refl _ _ | with_reducible assumption | with_reducible refine Below.drew ?_ | with_reducible refine Below_drewN ?_ _ | with_reducible refine Below.alloc ?_ ?_ _ | with_reducible refine Below.setCell ?_ ?_ _ | omega | (simp; done) | (simp; omega)))
      have hS : SG g w.drew := hS0
      generalize w.drew = wa at *
      have hFa := hfirst.below hb0
      have hSr : srcRep intS W wa (some ⟨g, i + 1, none⟩) (ws.drop (i + 1)) := (by have h9 := (h.below hb0).behind (i + 1) hi; rw [show (i + 1) * intS.size = i + 1 from Nat.mul_one _] at h9; exact h9)
      refine wpAnyK_take' (i := 0) _ rfl (by kernel_rfl) (fun _ _ _ h => hQp _ _ _ _ h) hS (yields_value (by kernel_rfl) (by intro w0 hw0; have hw1 := hw0; simp only [SG] at hw1; first | (go_simp; done) | (go_simp; rfl))) ?_; simp only [Act.put, List.getElem_toArray, List.getElem_cons_succ, List.getElem_cons_zero, List.setIfInBounds_toArray, List.set_cons_succ, List.set_cons_zero]
      refine wpAnyK_take' (i := 1) _ rfl (by kernel_rfl) (fun _ _ _ h => hQp _ _ _ _ h) hS (yields_value (by kernel_rfl) (by intro w0 hw0; have hw1 := hw0; simp only [SG] at hw1; first | (go_simp; done) | (go_simp; rfl))) ?_; simp only [Act.put, List.getElem_toArray, List.getElem_cons_succ, List.getElem_cons_zero, List.setIfInBounds_toArray, List.set_cons_succ, List.set_cons_zero]
      refine wpAnyK_take' (i := 3) _ rfl (by kernel_rfl) (fun _ _ _ h => hQp _ _ _ _ h) hS (yields_value (by kernel_rfl) (by intro w0 hw0; have hw1 := hw0; simp only [SG] at hw1; first | (go_simp; done) | (go_simp; rfl))) ?_; simp only [Act.put, List.getElem_toArray, List.getElem_cons_succ, List.getElem_cons_zero, List.setIfInBounds_toArray, List.set_cons_succ, List.set_cons_zero]
      refine wpAnyK_take' (i := 4) _ rfl (by kernel_rfl) (fun _ _ _ h => hQp _ _ _ _ h) hS (yields_value (by kernel_rfl) (by intro w0 hw0; have hw1 := hw0; simp only [SG] at hw1; first | (go_simp; done) | (go_simp; rfl))) ?_; simp only [Act.put, List.getElem_toArray, List.getElem_cons_succ, List.getElem_cons_zero, List.setIfInBounds_toArray, List.set_cons_succ, List.set_cons_zero]
      refine wpAnyK_take' (i := 2) _ rfl (by kernel_rfl) (fun _ _ _ h => hQp _ _ _ _ h) hS (yields_value (by kernel_rfl) (by intro w0 hw0; have hw1 := hw0; simp only [SG] at hw1; first | (go_simp; done) | (go_simp; rfl))) ?_; simp only [Act.put, List.getElem_toArray, List.getElem_cons_succ, List.getElem_cons_zero, List.setIfInBounds_toArray, List.set_cons_succ, List.set_cons_zero]
      refine wpAnyK_take' (i := 5) _ rfl (by kernel_rfl) (fun _ _ _ h => hQp _ _ _ _ h) hS (yields_value (by kernel_rfl) (by intro w0 hw0; have hw1 := hw0; simp only [SG] at hw1; first | (go_simp; done) | (go_simp; rfl))) ?_; simp only [Act.put, List.getElem_toArray, List.getElem_cons_succ, List.getElem_cons_zero, List.setIfInBounds_toArray, List.set_cons_succ, List.set_cons_zero]
      clear hS
      refine wpAnyK_call (i := 6) rfl (by kernel_rfl) (by kernel_rfl) fun K6 hK6 => ?_
      refine wp_appRoom (sh := intS) (n := i) (m := (n - (i + 1))) (ys := (ws.drop (i + 1))) (.tmp 22) (.tmp 25) 26 (by rfl) 3 i0 Try.underlying26 hi0 hz1 (by decide) (ok := W) (base := B) (by rfl) hFa (by rfl) HML.out hSr (by omega) ?_
      intro wb hob hgb
      simp only [Act.put, List.getElem_toArray, List.getElem_cons_succ, List.getElem_cons_zero, List.setIfInBounds_toArray, List.set_cons_succ, List.set_cons_zero]
      have hS : _ := (hob.cellAny (j := 0) (by show 0 < wc * 1; omega)).2
      refine hK6 _ _ (fun _ => hS) ?_
      clear hK6
      refine wpAnyK_take' (i := 7) _ rfl (by kernel_rfl) (fun _ _ _ h => hQp _ _ _ _ h) hS (yields_value (by kernel_rfl) (by intro w0 hw0; have hw1 := hw0; simp only [SG] at hw1; first | (go_simp; done) | (go_simp; rfl))) ?_; simp only [Act.put, List.getElem_toArray, List.getElem_cons_succ, List.getElem_cons_zero, List.setIfInBounds_toArray, List.set_cons_succ, List.set_cons_zero]
      refine wpAnyK_done (by kernel_rfl) ?_ _
      refine hR _ _ ?_
      iterate 6 apply Exists.intro
      refine ⟨?_, ⟨hob, (Frm.of hb0 hB).trans (Frm.grown hgb (fun k hk => ⟨fun e => e hk, (hFa.lt k hk).1⟩) (Nat.le_trans hB hb0.size))⟩⟩
      simp only [puts, Act.put, List.setIfInBounds_toArray, List.set_cons_succ, List.set_cons_zero]
      rfl
    rintro a' w8 ⟨v20, v21, v22, v23, v24, v25, rfl, hb8⟩
    simp only [puts, Act.put, List.setIfInBounds_toArray, List.set_cons_succ, List.set_cons_zero]
    obtain ⟨hob, hF⟩ := hb8
    have hm8 : i + (n - (i + 1)) = (n - 1) := by omega
    have h8b : (n - 1) < wc := by omega
    rw [hm8] at hob
    have HO := Lib.hid (hob.cellAny (j := (n - 1)) (by show (n - 1) < wc * 1; omega))
    obtain ⟨⟨v, hv⟩, hf⟩ := HO.out
    have c1 : ((((n - 1) : Nat) : Int)) ≤ (((n : Nat)) : Int) := by omega
    have c2 : (((n : Nat)) : Int) ≤ (((wc : Nat)) : Int) := by omega
    have c3 : ((((n - 1) : Nat) : Int)).toNat = (n - 1) := by omega
    have c4 : n - ((n - 1)) = 1 := by omega
    have c5 : (0 : Int) ≤ (((n - 1) : Nat) : Int) := by omega
    have hcl := fun (ty : TypeId) (c : Nat) => run_clear_one (P := Try.prog) (w := w8) (t := 26) (ty := ty) (c := c) (g := g) (k := (n - 1)) Try.underlying26 hi0 hz0 hv hf
    rw [hm8]
    clear hm8
    go_wp2
    go_ret; refine ⟨by first | rfl | simp, by rw [HXE.out]; exact hob.beyond (by show ((n - 1)) * 1 ≤ (n - 1); omega) _, hF.trans (Frm.set (a := ⟨g, (n - 1), none⟩) (fun e => e rfl) hgB _)⟩
  · have HML := Lib.hid hml
    clear hml
    go_enter Try.func28, Try.ntmps28
    go_wp2
    have hS0 : SG g w.drew := hdf 0
    refine wp_region_to (SG g) 99 (fun a0 a' w' => ∃ v20 v21 v22 v23 v24 v25, a' = puts a0 [(20, v20), (21, v21), (22, v22), (23, v23), (24, v24), (25, v25), (0, .slice (some ⟨g, 0, none⟩) (i + 0) (i + 1)), (26, .slice (some ⟨g, 0, none⟩) (i + 0) (i + 1))] ∧ ownR intS 3 W B w' (some ⟨g, 0, none⟩) (i + 0) (i + 1) (ws.take i ++ []) ∧ Frm (fun b => blk (some ⟨g, 0, none⟩) ≠ some b) B w w') (by kernel_rfl) ?_ ?_
    · intro Q' hR hQp
      have hb0 : Below w.heap.size w w.drew := by (repeat' (first | with_reducible exact Below.refl _ _ | with_reducible assumption | with_reducible refine Below.drew ?_ | with_reducible refine Below_drewN ?_ _ | with_reducible refine Below.alloc ?_ ?_ _ | with_reducible refine Below.setCell ?_ ?_ _ | omega | (simp; done) | (simp; omega)))
      have hS : SG g w.drew := hS0
      generalize w.drew = wa at *
      have hFa := hfirst.below hb0
      have hSr : srcRep intS W wa (some ⟨g, 0, none⟩) [] := (.inl rfl)
      refine wpAnyK_take' (i := 0) _ rfl (by kernel_rfl) (fun _ _ _ h => hQp _ _ _ _ h) hS (yields_value (by kernel_rfl) (by intro w0 hw0; have hw1 := hw0; simp only [SG] at hw1; first | (go_simp; done) | (go_simp; rfl))) ?_; simp only [Act.put, List.getElem_toArray, List.getElem_cons_succ, List.getElem_cons_zero, List.setIfInBounds_toArray, List.set_cons_succ, List.set_cons_zero]
      refine wpAnyK_take' (i := 1) _ rfl (by kernel_rfl) (fun _ _ _ h => hQp _ _ _ _ h) hS (yields_value (by kernel_rfl) (by intro w0 hw0; have hw1 := hw0; simp only [SG] at hw1; first | (go_simp; done) | (go_simp; rfl))) ?_; simp only [Act.put, List.getElem_toArray, List.getElem_cons_succ, List.getElem_cons_zero, List.setIfInBounds_toArray, List.set_cons_succ, List.set_cons_zero]
      refine wpAnyK_take' (i := 3) _ rfl (by kernel_rfl) (fun _ _ _ h => hQp _ _ _ _ h) hS (yields_value (by kernel_rfl) (by intro w0 hw0; have hw1 := hw0; simp only [SG] at hw1; first | (go_simp; done) | (go_simp; rfl))) ?_; simp only [Act.put, List.getElem_toArray, List.getElem_cons_succ, List.getElem_cons_zero, List.setIfInBounds_toArray, List.set_cons_succ, List.set_cons_zero]
      refine wpAnyK_take' (i := 4) _ rfl (by kernel_rfl) (fun _ _ _ h => hQp _ _ _ _ h) hS (yields_value (by kernel_rfl) (by intro w0 hw0; have hw1 := hw0; simp only [SG] at hw1; first | (go_simp; done) | (go_simp; rfl))) ?_; simp only [Act.put, List.getElem_toArray, List.getElem_cons_succ, List.getElem_cons_zero, List.setIfInBounds_toArray, List.set_cons_succ, List.set_cons_zero]
      refine wpAnyK_take' (i := 2) _ rfl (by kernel_rfl) (fun _ _ _ h => hQp _ _ _ _ h) hS (yields_value (by kernel_rfl) (by intro w0 hw0; have hw1 := hw0; simp only [SG] at hw1; first | (go_simp; done) | (go_simp; rfl))) ?_; simp only [Act.put, List.getElem_toArray, List.getElem_cons_succ, List.getElem_cons_zero, List.setIfInBounds_toArray, List.set_cons_succ, List.set_cons_zero]
      refine wpAnyK_take' (i := 5) _ rfl (by kernel_rfl) (fun _ _ _ h => hQp _ _ _ _ h) hS (yields_value (by kernel_rfl) (by intro w0 hw0; have hw1 := hw0; simp only [SG] at hw1; first | (go_simp; done) | (go_simp; rfl))) ?_; simp only [Act.put, List.getElem_toArray, List.getElem_cons_succ, List.getElem_cons_zero, List.setIfInBounds_toArray, List.set_cons_succ, List.set_cons_zero]
      clear hS
      refine wpAnyK_call (i := 6) rfl (by kernel_rfl) (by kernel_rfl) fun K6 hK6 => ?_
      refine wp_appRoom (sh := intS) (n := i) (m := 0) (ys := []) (.tmp 22) (.tmp 25) 26 (by rfl) 3 i0 Try.underlying26 hi0 hz1 (by decide) (ok := W) (base := B) (by rfl) hFa (by rfl) HML.out hSr (by omega) ?_
      intro wb hob hgb
      simp only [Act.put, List.getElem_toArray, List.getElem_cons_succ, List.getElem_cons_zero, List.setIfInBounds_toArray, List.set_cons_succ, List.set_cons_zero]
      have hS : _ := (hob.cellAny (j := 0) (by show 0 < (i + 1) * 1; omega)).2
      refine hK6 _ _ (fun _ => hS) ?_
      clear hK6
      refine wpAnyK_take' (i := 7) _ rfl (by kernel_rfl) (fun _ _ _ h => hQp _ _ _ _ h) hS (yields_value (by kernel_rfl) (by intro w0 hw0; have hw1 := hw0; simp only [SG] at hw1; first | (go_simp; done) | (go_simp; rfl))) ?_; simp only [Act.put, List.getElem_toArray, List.getElem_cons_succ, List.getElem_cons_zero, List.setIfInBounds_toArray, List.set_cons_succ, List.set_cons_zero]
      refine wpAnyK_done (by kernel_rfl) ?_ _
      refine hR _ _ ?_
      iterate 6 apply Exists.intro
      refine ⟨?_, ⟨hob, (Frm.of hb0 hB).trans (Frm.grown hgb (fun k hk => ⟨fun e => e hk, (hFa.lt k hk).1⟩) (Nat.le_trans hB hb0.size))⟩⟩
      simp only [puts, Act.put, List.setIfInBounds_toArray, List.set_cons_succ, List.set_cons_zero]
      rfl
    rintro a' w8 ⟨v20, v21, v22, v23, v24, v25, rfl, hb8⟩
    simp only [puts, Act.put, List.setIfInBounds_toArray, List.set_cons_succ, List.set_cons_zero]
    obtain ⟨hob, hF⟩ := hb8
    have hm8 : i + 0 = i := by omega
    have h8b : i < (i + 1) := by omega
    rw [hm8] at hob
    have HO := Lib.hid (hob.cellAny (j := i) (by show i < (i + 1) * 1; omega))
    obtain ⟨⟨v, hv⟩, hf⟩ := HO.out
    have c1 : (((i : Nat) : Int)) ≤ ((((i + 1) : Nat)) : Int) := by omega
    have c2 : ((((i + 1) : Nat)) : Int) ≤ ((((i + 1) : Nat)) : Int) := by omega
    have c3 : (((i : Nat) : Int)).toNat = i := by omega
    have c4 : (i + 1) - (i) = 1 := by omega
    have c5 : (0 : Int) ≤ ((i : Nat) : Int) := by omega
    have hcl := fun (ty : TypeId) (c : Nat) => run_clear_one (P := Try.prog) (w := w8) (t := 26) (ty := ty) (c := c) (g := g) (k := i) Try.underlying26 hi0 hz0 hv hf
    rw [hm8]
    clear hm8
    go_wp2
    go_ret; refine ⟨by first | rfl | simp, by rw [HXE.out]; exact hob.beyond (by show (i) * 1 ≤ i; omega) _, hF.trans (Frm.set (a := ⟨g, i, none⟩) (fun e => e rfl) hgB _)⟩

end Go.Proofs.Ytagldmdeohenjaa
