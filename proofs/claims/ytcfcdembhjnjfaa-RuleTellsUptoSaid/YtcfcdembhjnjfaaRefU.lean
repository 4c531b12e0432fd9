/-
  The walk of the document's Rules.
-/
import Derived.Test.YtcfcdembhjnjfaaOfW
import Derived.WalkKit
import Derived.WalkSpells
import Derived.WalkLawsBesides
import Derived.Lib.Hide
import Derived.Deep.LoopGhost
import Derived.Deep.QuietTactic
import Derived.BigQuiet
import Derived.Deep.RegionWith
import Derived.Handy
set_option linter.unusedSimpArgs false
set_option linter.unusedVariables false
namespace Go.St
open Go.RowKit
theorem pathRules_skip {v f s : Int} {p : List Int} {i : Nat} {a : Int} (ha : p[i]? = some a) (hn : ¬ (a = s ∧ i + 1 < p.length)) : pathRules v f s (p.drop i) = pathRules v f s (p.drop (i + 1)) := by
  by_cases hl : i + 1 < p.length
  · obtain ⟨y, hy⟩ : ∃ y, p[i + 1]? = some y := ⟨_, List.getElem?_eq_getElem hl⟩
    rw [pathRules_step ha hy, if_neg (fun h => hn ⟨h, hl⟩), List.nil_append]
  · rw [pathRules_end (by omega), pathRules_end (by omega)]
/-- what is read for a rule -/
def SU (wb qb qo : Nat) (v y : Int) (w : World) : Prop := w.cell? ⟨wb, 0, none⟩ = some (.int .i64 v) ∧ w.cell? ⟨qb, qo, none⟩ = some (.int .i64 y)
theorem SU.under {wb qb qo N : Nat} {v y : Int} {w w' : World} (h : SU wb qb qo v y w) (h1 : wb < N) (h2 : qb < N) (hb : Below N w w') : SU wb qb qo v y w' := ⟨cell_at hb h1 h.1, cell_at hb h2 h.2⟩
end Go.St
namespace Go.Proofs.Ytcfcdembhjnjfaa
open Go.RowKit Go.St

set_option maxRecDepth 100000 in
set_option maxHeartbeats 8000000 in
theorem refRules_c (p : Plan) (s : Int) (cs : List Value) (ok : Nat → Prop) (w : World) (h : planS.rep ok w cs p) (hbig : (rulesAt p s).length ≤ 5864062014800) (hpl : p.paths.length ≤ 100000000000000) :
    Calls Try.prog 19 #[.agg cs.toArray, .int .i64 s] w fun e w' => ∃ ao cap, e = .returned (.slice ao (rulesAt p s).length cap) ∧ rowRep ruleS (fun b => w.heap.size ≤ b) w' ao cap (rulesAt p s) ∧ Below w.heap.size w w' := by
  obtain ⟨fa, fc, pa, pc, rfl, hv, hfl, hps⟩ := h
  obtain ⟨v, fls, ps⟩ := p
  dsimp only at *
  obtain ⟨i0, hi, hz0, hz1, hz2⟩ := info_parts info_rulesOf
  have hst : Hid (([] : List Rule) ++ rulesFrom v s ((0 : Nat) : Int) (ps.drop 0) = rulesAt ⟨v, fls, ps⟩ s) := rfl
  have hlx := hps.len_le
  generalize rulesAt ⟨v, fls, ps⟩ s = R at *
  go_enter Try.func19, Try.ntmps19
  go_wp2
  go_loopw [5, 6, 7, 8, 9, 13] (fun ov _ _ _ _ idx wr => ∃ (j : Nat) (out : List Rule) (ao : Option Addr) (cap : Nat), idx = .int .i64 j ∧ j ≤ ps.length ∧ ov = .slice ao out.length cap ∧ ownR ruleS 28 (fun _ => False) (w.heap.size + 1) wr ao out.length cap out ∧ Hid (out ++ rulesFrom v s ((j : Nat) : Int) (ps.drop j) = R) ∧ blockIs wr w.heap.size 38 #[.int .i64 v, .slice fa fls.length fc, .slice pa ps.length pc] ∧ Below w.heap.size w wr) (fun _ _ _ _ _ idx _ => ps.length - (intOf idx).toNat)
  case atStart => exact ⟨0, [], none, 0, rfl, Nat.zero_le _, rfl, ownR.nil' _ _ _ _, hst, blockIs.new rfl, by (repeat' (first | with_reducible exact Below.refl _ _ | with_reducible assumption | with_reducible refine Below.drew ?_ | with_reducible refine Below_drewN ?_ _ | with_reducible refine Below.alloc ?_ ?_ _ | with_reducible refine Below.setCell ?_ ?_ _ | omega | (simp; done) | (simp; omega)))⟩
  case round =>
    clear hst
    obtain ⟨j, out, ao, cap, rfl, hj, rfl, hown, hS, hP, hb⟩ := hrel
    rename World => wo
    obtain ⟨p1, p2⟩ := hP.cells
    have hPl := hP.lt
    by_cases hlt : j < ps.length
    case neg =>
      have hE : out = R := by have := hS.out; rw [rulesFrom_end (by omega), List.append_nil] at this; exact this
      subst hE
      have b1 : ¬ (j : Int) < (ps.length : Int) := by omega
      have hrow : rowRep ruleS (fun b => w.heap.size ≤ b) wo ao cap out := hown.row (fun _ h => h.elim) (fun k hk => by have := (hown.lt k hk).1; omega)
      clear hS hown
      go_wp2
      go_ret; exact ⟨ao, cap, rfl, hrow, hb⟩
    obtain ⟨pp, hpp⟩ : ∃ pp, ps[j]? = some pp := ⟨_, List.getElem?_eq_getElem hlt⟩
    obtain ⟨gb, go, pao, pcap, rfl, hgl, hpr, hce⟩ := sliceRow_get hps hpp
    have e0 := hce _ hb
    have hplen := hpr.len_le
    have b0 : (0 : Int) ≤ (j : Int) := by omega
    have b1 : (j : Int) < (ps.length : Int) := by omega
    have hst : Hid (out ++ (pathRules v j s (pp.drop 0) ++ rulesFrom v s ((j + 1 : Nat) : Int) (ps.drop (j + 1))) = R) := by have := hS.out; rw [rulesFrom_step hpp] at this; exact this
    have hjI : I64 (j : Int) := ⟨by omega, by omega⟩
    clear hS hce hpp
    go_wp2
    clear e0
    go_loopw [5, 8, 9, 20] (fun ov _ _ ii wr => ∃ (i : Nat) (out : List Rule) (ao : Option Addr) (cap : Nat), ii = .int .i64 i ∧ i ≤ pp.length ∧ ov = .slice ao out.length cap ∧ ownR ruleS 28 (fun _ => False) (w.heap.size + 1) wr ao out.length cap out ∧ Hid (out ++ (pathRules v j s (pp.drop i) ++ rulesFrom v s ((j + 1 : Nat) : Int) (ps.drop (j + 1))) = R) ∧ blockIs wr w.heap.size 38 #[.int .i64 v, .slice fa fls.length fc, .slice (some ⟨gb, go, none⟩) ps.length pc] ∧ Below w.heap.size w wr) (fun _ _ _ ii _ => pp.length - (intOf ii).toNat)
    case atStart => exact ⟨0, out, ao, cap, rfl, Nat.zero_le _, rfl, hown, hst, hP, hb⟩
    case round =>
    clear hst hown hP hb p1 p2 hPl
    obtain ⟨i, out, ao, cap, rfl, hi0, rfl, hown, hS, hP, hb⟩ := hrel
    rename World => wi
    obtain ⟨p1, p2⟩ := hP.cells
    have hPl := hP.lt
    by_cases hil : i < pp.length
    case neg =>
      have hS2 : Hid (out ++ rulesFrom v s ((j + 1 : Nat) : Int) (ps.drop (j + 1)) = R) := by have := hS.out; rw [pathRules_end (by omega), List.nil_append] at this; exact this
      have b2 : ¬ (i : Int) < (pp.length : Int) := by omega
      clear hS
      go_wp2
      case roundEnd =>
        go_roundw
        case rel => exact ⟨j + 1, out, ao, cap, by go_num, by omega, rfl, hown, hS2, hP, hb⟩
        case measure => simp [intOf] <;> omega
    obtain ⟨a, ha⟩ : ∃ a, pp[i]? = some a := ⟨_, List.getElem?_eq_getElem hil⟩
    obtain ⟨qb, qo, rfl, hql, haI, hca⟩ := intRow_get hpr ha
    have e1 := hca _ hb
    have b2 : (i : Int) < (pp.length : Int) := by omega
    have b3 : (0 : Int) ≤ (i : Int) := by omega
    have k1 : IntKind.i64.wrap ((i : Int) + 1) = (i : Int) + 1 := IntWalk.i64_in _ (by omega)
    have k2 : IntKind.i64.wrap ((pp.length : Int) - 1) = (pp.length : Int) - 1 := IntWalk.i64_in _ (by omega)
    have hzz := hb.size
    have HSK : Hid (¬ (a = s ∧ i + 1 < pp.length) → out ++ (pathRules v j s (pp.drop (i + 1)) ++ rulesFrom v s ((j + 1 : Nat) : Int) (ps.drop (j + 1))) = R) := fun h => by rw [← pathRules_skip ha h]; exact hS.out
    by_cases has : a = s
    case neg =>
      have b4 : (a == s) = false := by rw [beq_eq_false_iff_ne]; exact has
      have hS3 : Hid (out ++ (pathRules v j s (pp.drop (i + 1)) ++ rulesFrom v s ((j + 1 : Nat) : Int) (ps.drop (j + 1))) = R) := HSK.out fun h => has h.1
      clear hS HSK has hca ha
      go_wp2
      case roundEnd =>
        go_roundw
        case rel => exact ⟨i + 1, out, ao, cap, by go_num, by omega, rfl, hown, hS3, hP, hb⟩
        case measure => simp [intOf] <;> omega
    subst has
    by_cases hlast : i + 1 < pp.length
    case neg =>
      have b5 : ¬ (i : Int) < (pp.length : Int) - 1 := by omega
      have hS3 : Hid (out ++ (pathRules v j a (pp.drop (i + 1)) ++ rulesFrom v a ((j + 1 : Nat) : Int) (ps.drop (j + 1))) = R) := HSK.out fun h => hlast h.2
      clear hS HSK hca ha
      go_wp2
      case roundEnd =>
        go_roundw
        case rel => exact ⟨i + 1, out, ao, cap, by go_num, by omega, rfl, hown, hS3, hP, hb⟩
        case measure => simp [intOf] <;> omega
    obtain ⟨y, hy⟩ : ∃ y, pp[i + 1]? = some y := ⟨_, List.getElem?_eq_getElem hlast⟩
    obtain ⟨qb', qo', hqe, _, hyI, hcy⟩ := intRow_get hpr hy
    obtain ⟨rfl, rfl⟩ : qb = qb' ∧ qo = qo' := by simpa using hqe
    have e2 := hcy _ hb
    have b5 : (i : Int) < (pp.length : Int) - 1 := by omega
    have b6 : (i : Int) + 1 < (pp.length : Int) := by omega
    have hS3 : Hid ((out ++ [⟨v, j, y⟩]) ++ (pathRules v j a (pp.drop (i + 1)) ++ rulesFrom v a ((j + 1 : Nat) : Int) (ps.drop (j + 1))) = R) := by
      have h1 := hS.out
      rw [pathRules_step ha hy, if_pos rfl] at h1
      show _ = R
      rw [← h1]; simp
    have hlen : out.length + 1 ≤ 5864062014800 := by
      have h1 := hS3.out
      rw [← h1] at hbig
      simp only [List.length_append, List.length_cons, List.length_nil] at hbig; omega
    have hll : (out ++ [(⟨v, j, y⟩ : Rule)]).length = out.length + 1 := by simp
    clear hS HSK hca hcy ha hy hqe hlast
    go_wp2
    have hS0 : SU w.heap.size qb (qo + (i + 1)) v y wi.drew := ⟨p1 0, e2⟩
    refine wp_region_to (SU w.heap.size qb (qo + (i + 1)) v y) 99 (fun a0 a' w' => ∃ v5 v35 v36 v37 v38 v39 v40 v41 v42 v43 v44 v45 v46, a' = puts a0 [(5, v5), (35, v35), (36, v36), (37, v37), (38, v38), (39, v39), (40, v40), (41, v41), (42, v42), (43, v43), (44, v44), (45, v45), (46, v46)] ∧ ∃ ao' cap', v5 = .slice ao' (out.length + 1) cap' ∧ ownR ruleS 28 (fun _ => False) (w.heap.size + 1) w' ao' (out.length + 1) cap' (out ++ [⟨v, j, y⟩]) ∧ Below (w.heap.size + 1) wi w') (by kernel_rfl) ?_ ?_
    · intro Q' hR hQp
      have hb0 : Below wi.heap.size wi wi.drew := by (repeat' (first | with_reducible exact Below.refl _ _ | with_reducible assumption | with_reducible refine Below.drew ?_ | with_reducible refine Below_drewN ?_ _ | with_reducible refine Below.alloc ?_ ?_ _ | with_reducible refine Below.setCell ?_ ?_ _ | omega | (simp; done) | (simp; omega)))
      have hS : SU w.heap.size qb (qo + (i + 1)) v y wi.drew := hS0
      generalize wi.drew = wa at *
      refine wpAnyK_take' (i := 0) _ rfl (by kernel_rfl) (fun _ _ _ h => hQp _ _ _ _ h) hS (yields_value (by kernel_rfl) (by intro w0 hw0; have hw1 := hw0; simp only [SU] at hw1; first | (go_simp; done) | (go_simp; rfl))) ?_; simp only [Act.put, List.getElem_toArray, List.getElem_cons_succ, List.getElem_cons_zero, List.setIfInBounds_toArray, List.set_cons_succ, List.set_cons_zero]
      refine wpAnyK_take' (i := 1) _ rfl (by kernel_rfl) (fun _ _ _ h => hQp _ _ _ _ h) hS (yields_value (by kernel_rfl) (by intro w0 hw0; have hw1 := hw0; simp only [SU] at hw1; first | (go_simp; done) | (go_simp; rfl))) ?_; simp only [Act.put, List.getElem_toArray, List.getElem_cons_succ, List.getElem_cons_zero, List.setIfInBounds_toArray, List.set_cons_succ, List.set_cons_zero]
      refine wpAnyK_take' (i := 2) _ rfl (by kernel_rfl) (fun _ _ _ h => hQp _ _ _ _ h) hS (yields_value (by kernel_rfl) (by intro w0 hw0; have hw1 := hw0; simp only [SU] at hw1; first | (go_simp; done) | (go_simp; rfl))) ?_; simp only [Act.put, List.getElem_toArray, List.getElem_cons_succ, List.getElem_cons_zero, List.setIfInBounds_toArray, List.set_cons_succ, List.set_cons_zero]
      refine wpAnyK_take' (i := 3) _ rfl (by kernel_rfl) (fun _ _ _ h => hQp _ _ _ _ h) hS (yields_value (by kernel_rfl) (by intro w0 hw0; have hw1 := hw0; simp only [SU] at hw1; first | (go_simp; done) | (go_simp; rfl))) ?_; simp only [Act.put, List.getElem_toArray, List.getElem_cons_succ, List.getElem_cons_zero, List.setIfInBounds_toArray, List.set_cons_succ, List.set_cons_zero]
      refine wpAnyK_take' (i := 4) _ rfl (by kernel_rfl) (fun _ _ _ h => hQp _ _ _ _ h) hS (yields_value (by kernel_rfl) (by intro w0 hw0; have hw1 := hw0; simp only [SU] at hw1; first | (go_simp; done) | (go_simp; rfl))) ?_; simp only [Act.put, List.getElem_toArray, List.getElem_cons_succ, List.getElem_cons_zero, List.setIfInBounds_toArray, List.set_cons_succ, List.set_cons_zero]
      refine wpAnyK_take' (i := 5) _ rfl (by kernel_rfl) (fun _ _ _ h => hQp _ _ _ _ h) hS (yields_value (by kernel_rfl) (by intro w0 hw0; have hw1 := hw0; simp only [SU] at hw1; first | (go_simp; done) | (go_simp; rfl))) ?_; simp only [Act.put, List.getElem_toArray, List.getElem_cons_succ, List.getElem_cons_zero, List.setIfInBounds_toArray, List.set_cons_succ, List.set_cons_zero]
      refine wpAnyK_take' (i := 6) _ rfl (by kernel_rfl) (fun _ _ _ h => hQp _ _ _ _ h) hS (yields_value (by kernel_rfl) (by intro w0 hw0; have hw1 := hw0; simp only [SU] at hw1; first | (go_simp; done) | (go_simp; rfl))) ?_; simp only [Act.put, List.getElem_toArray, List.getElem_cons_succ, List.getElem_cons_zero, List.setIfInBounds_toArray, List.set_cons_succ, List.set_cons_zero]
      refine wpAnyK_take' (i := 7) _ rfl (by kernel_rfl) (fun _ _ _ h => hQp _ _ _ _ h) hS (yields_value (by kernel_rfl) (by intro w0 hw0; have hw1 := hw0; simp only [SU] at hw1; first | (go_simp; done) | (go_simp; rfl))) ?_; simp only [Act.put, List.getElem_toArray, List.getElem_cons_succ, List.getElem_cons_zero, List.setIfInBounds_toArray, List.set_cons_succ, List.set_cons_zero]
      refine wpAnyK_take' (i := 8) _ rfl (by kernel_rfl) (fun _ _ _ h => hQp _ _ _ _ h) hS (yields_value (by kernel_rfl) (by intro w0 hw0; have hw1 := hw0; simp only [SU] at hw1; first | (go_simp; done) | (go_simp; rfl))) ?_; simp only [Act.put, List.getElem_toArray, List.getElem_cons_succ, List.getElem_cons_zero, List.setIfInBounds_toArray, List.set_cons_succ, List.set_cons_zero]
      refine wpAnyK_take' (i := 9) _ rfl (by kernel_rfl) (fun _ _ _ h => hQp _ _ _ _ h) hS (yields_value (by kernel_rfl) (by intro w0 hw0; have hw1 := hw0; simp only [SU] at hw1; first | (go_simp; done) | (go_simp; rfl))) ?_; simp only [Act.put, List.getElem_toArray, List.getElem_cons_succ, List.getElem_cons_zero, List.setIfInBounds_toArray, List.set_cons_succ, List.set_cons_zero]
      have hwz : wi.heap.size ≤ wa.heap.size := hb0.size
      have hb3 : Below wa.heap.size wa (wa.alloc (.cells #[.int .i64 v, .int .i64 j, .int .i64 y] 28)) := by (repeat' (first | with_reducible exact Below.refl _ _ | with_reducible assumption | with_reducible refine Below.drew ?_ | with_reducible refine Below_drewN ?_ _ | with_reducible refine Below.alloc ?_ ?_ _ | with_reducible refine Below.setCell ?_ ?_ _ | omega | (simp; done) | (simp; omega)))
      have hsr : srcRep ruleS (fun _ => False) (wa.alloc (.cells #[.int .i64 v, .int .i64 j, .int .i64 y] 28)) (some ⟨wa.heap.size, 0, none⟩) [⟨v, j, y⟩] := srcRep.rule ⟨v, j, y⟩ rfl hv hjI hyI
      clear hS
      refine wpAnyK_call (i := 10) rfl (by kernel_rfl) (by kernel_rfl) fun K10 hK10 => ?_
      go_simp
      go_wp2_with fail
      have hS : _ := hS0.under (N := wa.heap.size) (by omega) (by omega) hb3
      refine hK10 _ _ (fun _ => hS) ?_
      clear hK10
      generalize wa.alloc (.cells #[.int .i64 v, .int .i64 j, .int .i64 y] 28) = wx at *
      have hb4 : Below (w.heap.size + 1) wi wx := (hb0.trans (hb3.mono hwz)).mono (by omega)
      have hown4 := hown.below (hb0.trans (hb3.mono hwz))
      have hxz := hb3.size
      clear hS
      refine wpAnyK_call (i := 11) rfl (by kernel_rfl) (by kernel_rfl) fun K11 hK11 => ?_
      refine wp_appR (sh := ruleS) (n := out.length) (m := 1) (c := 1) (.tmp 35) (.tmp 45) 22 (by rfl) 28 i0 (.agg #[.int .i64 0, .int .i64 0, .int .i64 0]) 24 Try.underlying22 hi hz0 hz1 hz2 rfl (by decide) (ok := fun _ => False) (base := w.heap.size + 1) (by rfl) hown4 (by rfl) rfl hsr (by simp only [maxLen]; omega) (by omega) (by omega) ?_
      intro ao' cap' wy ho hg hlie
      have hb5 : Below (w.heap.size + 1) wx wy := grown_below hg (fun k hk => (hown4.lt k hk).1) (by omega)
      simp only [Act.put, List.getElem_toArray, List.getElem_cons_succ, List.getElem_cons_zero, List.setIfInBounds_toArray, List.set_cons_succ, List.set_cons_zero]
      have hb6 : Below (w.heap.size + 1) wi wy := hb4.trans hb5
      have hSw : SU w.heap.size qb (qo + (i + 1)) v y wi := ⟨p1 0, e2⟩
      have hS : _ := hSw.under (by omega) (by omega) hb6
      refine hK11 _ _ (fun _ => hS) ?_
      clear hK11
      refine wpAnyK_take' (i := 12) _ rfl (by kernel_rfl) (fun _ _ _ h => hQp _ _ _ _ h) hS (yields_value (by kernel_rfl) (by intro w0 hw0; have hw1 := hw0; simp only [SU] at hw1; first | (go_simp; done) | (go_simp; rfl))) ?_; simp only [Act.put, List.getElem_toArray, List.getElem_cons_succ, List.getElem_cons_zero, List.setIfInBounds_toArray, List.set_cons_succ, List.set_cons_zero]
      refine wpAnyK_done (by kernel_rfl) ?_ _
      refine hR _ _ ?_
      iterate 13 apply Exists.intro
      refine ⟨?_, ⟨ao', cap', rfl, ho, hb6⟩⟩
      simp only [puts, Act.put, List.setIfInBounds_toArray, List.set_cons_succ, List.set_cons_zero]
      rfl
    rintro a' w8 ⟨v5, v35, v36, v37, v38, v39, v40, v41, v42, v43, v44, v45, v46, rfl, hb8⟩
    simp only [puts, Act.put, List.setIfInBounds_toArray, List.set_cons_succ, List.set_cons_zero]
    obtain ⟨ao', cap', rfl, ho8, hb9⟩ := hb8
    have hP8 := hP.below hb9 (by omega)
    have hB8 : Below w.heap.size w w8 := hb.trans (hb9.mono (by omega))
    go_wp2
    case roundEnd =>
      go_roundw
      case rel => exact ⟨i + 1, _, ao', cap', by go_num, by omega, by rw [hll], by rw [hll]; exact ho8, hS3, hP8, hB8⟩
      case measure => simp [intOf] <;> omega

end Go.Proofs.Ytcfcdembhjnjfaa
