/-
  The document's Serves, at a good path.
-/
import Derived.Test.YtagldmdeohenjaaPk12
import Derived.Test.YtagldmdeohenjaaPk1
import Derived.WalkKit
import Derived.WalkSpells
import Derived.WalkLawsBesides
import Derived.Lib.Hide
import Derived.Deep.LoopGhost
import Derived.Deep.QuietTactic
import Derived.BigQuiet
import Derived.Deep.RegionWith
import Derived.Handy
import Derived.Test.YtagldmdeohenjaaPk8
import Derived.Test.YtagldmdeohenjaaPk2
set_option linter.unusedSimpArgs false
set_option linter.unusedVariables false
namespace Go.St
open Go.RowKit
theorem length_ok {t : Topo} : ∀ (r had : List Int) (n : Int), (had ++ r).Nodup → (∀ s ∈ had ++ r, 0 ≤ s ∧ s < t.n) → linked t (had ++ r) = true → had ++ r ≠ [] → (lengthFrom t had n r).2 = true
  | [], had, n, _, _, _, h => by
    cases had with
    | nil => simp at h
    | cons a q => rfl
  | s :: r, had, n, hn, hr, hl, h => by
    have hs := hr s (by simp)
    have hnm : s ∉ had := fun hm => (List.nodup_append.1 hn).2.2 _ hm _ (by simp) rfl
    unfold lengthFrom
    rw [if_neg (by simp only [not_or]; exact ⟨by omega, by omega, hnm⟩)]
    cases hh : had.getLast? with
    | none =>
      have : had = [] := List.getLast?_eq_none_iff.1 hh
      subst this
      exact length_ok r [s] n (by simpa using hn) (by simpa using hr) (by simpa using hl) (by simp)
    | some q =>
      have hne : had ≠ [] := by rintro rfl; cases hh
      have e1 : had ++ s :: r = (had ++ [s]) ++ r := by simp
      have h6 := linked_left t _ _ (e1 ▸ hl)
      rw [linked_snoc t had s hne, Bool.and_eq_true, decide_eq_true_eq] at h6
      have hq : had.getLastD 0 = q := by rw [List.getLastD_eq_getLast?, hh]; rfl
      rw [hq] at h6
      dsimp only
      rw [if_neg h6.2]
      exact length_ok r (had ++ [s]) _ (e1 ▸ hn) (by rw [← e1]; exact hr) (e1 ▸ hl) (by simp)
theorem Good.ne {t : Topo} {f : Flow} {p : List Int} (h : Good t f p) : p ≠ [] := by rintro rfl; have := h.src; cases this
theorem Good.len {t : Topo} {f : Flow} {p : List Int} (h : Good t f p) : (lengthOf t p).2 = true := length_ok p [] 0 h.nodup h.rng h.link h.ne
/-- so many of the ways are met ahead of a place -/
def metAt (f : Flow) (p : List Int) (j met : Nat) : Prop := (p.take j).filter (fun s => decide (s ∈ f.via)) = f.via.take met ∧ met ≤ f.via.length
theorem met_in {t : Topo} {f : Flow} {p : List Int} (h : Good t f p) {j met : Nat} (hj : j < p.length) (hm : metAt f p j met) (hv : p[j] ∈ f.via) : f.via[met]? = some p[j] ∧ metAt f p (j + 1) (met + 1) := by
  have h5 := h.via
  have e : p = p.take j ++ p[j] :: p.drop (j + 1) := by rw [List.getElem_cons_drop, List.take_append_drop]
  rw [e, List.filter_append, hm.1, List.filter_cons, if_pos (by simpa using hv)] at h5
  have hl2 : (f.via.take met).length = met := by rw [List.length_take]; have := hm.2; omega
  have h6 : f.via[met]? = some p[j] := by
    conv => lhs; rw [← h5]
    rw [List.getElem?_append_right (by omega), hl2]; simp
  have hlt := (List.getElem?_eq_some_iff.1 h6).1
  refine ⟨h6, ?_, by omega⟩
  rw [List.take_succ_eq_append_getElem hj, List.filter_append, hm.1, List.take_add_one, h6]
  simp [hv]
theorem met_out {f : Flow} {p : List Int} {j met : Nat} (hj : j < p.length) (hm : metAt f p j met) (hv : p[j] ∉ f.via) : metAt f p (j + 1) met := by
  refine ⟨?_, hm.2⟩
  rw [List.take_succ_eq_append_getElem hj, List.filter_append, hm.1]
  simp [hv]
theorem met_end {t : Topo} {f : Flow} {p : List Int} (h : Good t f p) {j met : Nat} (hj : ¬ j < p.length) (hm : metAt f p j met) : met = f.via.length := by
  have := hm.1
  rw [List.take_of_length_le (by omega), h.via] at this
  have := congrArg List.length this
  rw [List.length_take] at this
  have := hm.2
  omega
theorem find_bad {t : Topo} {f : Flow} (h : (findOf t f).2 ≠ 0) : (findOf t f).1 = [] := by
  unfold findOf at h ⊢
  by_cases h1 : (topoWrong t).1 = 0
  case neg => rw [if_pos h1]
  rw [if_neg (by simp [h1])] at h ⊢
  by_cases h2 : (flowsWrong [f] t.n).1 = 0
  case neg => rw [if_pos h2]
  rw [if_neg (by simp [h2])] at h ⊢
  cases hb : (onS t f 9 [f.src] 0 0 (none, 0)).1 with
  | none => rfl
  | some p => rw [hb] at h; simp at h
end Go.St
namespace Go.Proofs.Ytagldmdeohenjaa
open Go.RowKit Go.St

set_option maxRecDepth 100000 in
set_option maxHeartbeats 8000000 in
theorem servesGood_c (t : Topo) (f : Flow) (p : List Int) (cs ds : List Value) (ok ok' ok'' : Nat → Prop) (pa : Option Addr) (pc : Nat) (w : World) (h : topoS.rep ok w cs t) (hf : flowS.rep ok' w ds f) (hp : rowRep intS ok'' w pa pc p) (hg : St.Good t f p) :
    Calls Try.prog 58 #[.agg cs.toArray, .agg ds.toArray, .slice pa p.length pc] w fun e w' => e = .returned (.bool true) ∧ Below w.heap.size w w' := by
  have hT := h
  obtain ⟨la, lc, rfl, hn, hr⟩ := h
  obtain ⟨va, vc, na, nc, rfl, hs, hd, hv, hno⟩ := id hf
  have hlx := hp.len_le
  have hp0 : 0 < p.length := List.length_pos_iff.2 hg.ne
  obtain ⟨pb, po, rfl, _, hpb, _⟩ := hp.get (List.getElem?_eq_getElem hp0)
  have hcell : ∀ (w' : World) (hw : Below w.heap.size w w') (m : Nat) (hm : m < p.length), w'.cell? ⟨pb, po + m, none⟩ = some (.int .i64 p[m]) := by
    intro w' hw m hm
    obtain ⟨pb', po', hbo, _, _, cs', ⟨rfl, _⟩, hce⟩ := hp.get (List.getElem?_eq_getElem hm)
    obtain ⟨rfl, rfl⟩ : pb = pb' ∧ po = po' := by simpa using hbo
    have := cell_at hw hpb (hce 0 _ rfl)
    simpa only [intS, Nat.add_zero, Nat.mul_one] using this
  have HCE := Lib.hid hcell
  clear hcell
  have hlen := hg.len
  have q0 : p[0] = f.src := by
    have := hg.src
    rw [List.head?_eq_getElem?, List.getElem?_eq_getElem hp0] at this
    exact Option.some.inj this
  have q1 : p[p.length - 1]'(by omega) = f.dst := by
    have := hg.dst
    rw [List.getLast?_eq_getElem?, List.getElem?_eq_getElem (by omega)] at this
    exact Option.some.inj this
  go_enter Try.func58, Try.ntmps58
  go_wp2_with fail
  refine (refLength_c t p _ ok ok'' _ pc _ (topoS.below hT (by (repeat' (first | with_reducible exact Below.refl _ _ | with_reducible assumption | with_reducible refine Below.drew ?_ | with_reducible refine Below_drewN ?_ _ | with_reducible refine Below.alloc ?_ ?_ _ | with_reducible refine Below.setCell ?_ ?_ _ | omega | (simp; done) | (simp; omega))))) (hp.below (by (repeat' (first | with_reducible exact Below.refl _ _ | with_reducible assumption | with_reducible refine Below.drew ?_ | with_reducible refine Below_drewN ?_ _ | with_reducible refine Below.alloc ?_ ?_ _ | with_reducible refine Below.setCell ?_ ?_ _ | omega | (simp; done) | (simp; omega)))))).mono ?_
  rintro e w1 ⟨rfl, hb1⟩
  have hB1 : Below w.heap.size w w1 := Below.trans (by (repeat' (first | with_reducible exact Below.refl _ _ | with_reducible assumption | with_reducible refine Below.drew ?_ | with_reducible refine Below_drewN ?_ _ | with_reducible refine Below.alloc ?_ ?_ _ | with_reducible refine Below.setCell ?_ ?_ _ | omega | (simp; done) | (simp; omega)))) (hb1.mono (by simp; omega))
  have hF1 : blockIs w1 (w.heap.size + 1) 64 #[.int .i64 f.src, .int .i64 f.dst, .slice va f.via.length vc, .slice na f.no.length nc] := (blockIs.new (by simp)).under hb1
  obtain ⟨f1, f2⟩ := hF1.cells
  have hz1 := hF1.lt
  rw [hlen]
  clear hb1 hlen
  have e0 := HCE.out w1 hB1 0 hp0
  have e1 := HCE.out w1 hB1 (p.length - 1) (by omega)
  rw [q0, Nat.add_zero] at e0
  rw [q1] at e1
  clear q0 q1
  have k1 : IntKind.i64.wrap ((p.length : Int) - 1) = ((p.length - 1 : Nat) : Int) := by rw [IntWalk.i64_in _ (by omega)]; omega
  have k2 : (0 : Int) ≤ ((p.length - 1 : Nat) : Int) := by omega
  have k3 : ((p.length - 1 : Nat) : Int) < (p.length : Int) := by omega
  have k4 : (((p.length - 1 : Nat) : Int)).toNat = p.length - 1 := by omega
  have k5 : (0 : Int) < (p.length : Int) := by omega
  go_wp2
  go_quiet (fail)
  go_wp2
  go_loop [9, 11, 41] (fun m _ i => ∃ j met : Nat, j ≤ p.length ∧ m = .int .i64 met ∧ i = .int .i64 j ∧ Hid (metAt f p j met)) (fun _ _ i => p.length - (intOf i).toNat)
  case atStart => exact ⟨0, 0, Nat.zero_le _, rfl, rfl, by show metAt _ _ _ _; exact ⟨by simp, Nat.zero_le _⟩⟩
  case round =>
    obtain ⟨j, met, hj, rfl, rfl, hmet⟩ := hrel
    by_cases hlt : j < p.length
    case neg =>
      have HE := Lib.hid (met_end hg hlt hmet.out)
      have b1 : ¬ (j : Int) < (p.length : Int) := by omega
      have hm : ((met : Int) == (f.via.length : Int)) = true := by rw [beq_iff_eq]; have := HE.out; omega
      clear hmet
      go_wp2
      go_ret; exact ⟨rfl, by (repeat' (first | with_reducible exact Below.refl _ _ | with_reducible assumption | with_reducible refine Below.drew ?_ | with_reducible refine Below_drewN ?_ _ | with_reducible refine Below.alloc ?_ ?_ _ | with_reducible refine Below.setCell ?_ ?_ _ | omega | (simp; done) | (simp; omega)))⟩
    have e2 := HCE.out w1 hB1 j hlt
    have hsn : decide (p[j] ∈ f.no) = false := decide_eq_false (hg.no _ (List.getElem_mem hlt))
    have hcn := fun w' (hw : Below w.heap.size w w') => in_c f.no p[j] ok' na nc w' (hno.below hw)
    have hcv := fun w' (hw : Below w.heap.size w w') => in_c f.via p[j] ok' va vc w' (hv.below hw)
    rw [hsn] at hcn
    have b0 : (0 : Int) ≤ (j : Int) := by omega
    have b1 : (j : Int) < (p.length : Int) := by omega
    by_cases hvia : p[j] ∈ f.via
    · obtain ⟨m1, m2⟩ := met_in hg hlt hmet.out hvia
      obtain ⟨vb, vo, rfl, _, hvb, cs', ⟨rfl, _⟩, hce⟩ := hv.get m1
      have e3 := cell_at hB1 hvb (hce 0 _ rfl)
      simp only [intS, Nat.add_zero, Nat.mul_one] at e3
      have hml := (List.getElem?_eq_some_iff.1 m1).1
      have d0 : (0 : Int) ≤ (met : Int) := by omega
      have d1 : (met : Int) < (f.via.length : Int) := by omega
      have d2 : IntKind.i64.wrap ((met : Int) + 1) = (met : Int) + 1 := IntWalk.i64_in _ (by have := hv.len_le; omega)
      rw [decide_eq_true hvia] at hcv
      have HM := Lib.hid m2
      have HCN := Lib.hid hcn
      have HCV := Lib.hid hcv
      clear hce m1 m2 hmet hvia hsn hcn hcv
      generalize p[j] = s at *
      go_wp2_with fail
      refine (HCN.out _ (by (repeat' (first | with_reducible exact Below.refl _ _ | with_reducible assumption | with_reducible refine Below.drew ?_ | with_reducible refine Below_drewN ?_ _ | with_reducible refine Below.alloc ?_ ?_ _ | with_reducible refine Below.setCell ?_ ?_ _ | omega | (simp; done) | (simp; omega))))).mono ?_
      rintro e w2 ⟨rfl, rfl⟩
      go_wp2_with fail
      refine (HCV.out _ (by (repeat' (first | with_reducible exact Below.refl _ _ | with_reducible assumption | with_reducible refine Below.drew ?_ | with_reducible refine Below_drewN ?_ _ | with_reducible refine Below.alloc ?_ ?_ _ | with_reducible refine Below.setCell ?_ ?_ _ | omega | (simp; done) | (simp; omega))))).mono ?_
      rintro e w2 ⟨rfl, rfl⟩
      go_wp2
      go_round
      case rel => exact ⟨j + 1, met + 1, by omega, by go_num, by go_num, HM⟩
      case measure => simp [intOf]; omega
    · have HM := Lib.hid (met_out hlt hmet.out hvia)
      rw [decide_eq_false hvia] at hcv
      have HCN := Lib.hid hcn
      have HCV := Lib.hid hcv
      clear hmet hvia hsn hcn hcv
      generalize p[j] = s at *
      go_wp2_with fail
      refine (HCN.out _ (by (repeat' (first | with_reducible exact Below.refl _ _ | with_reducible assumption | with_reducible refine Below.drew ?_ | with_reducible refine Below_drewN ?_ _ | with_reducible refine Below.alloc ?_ ?_ _ | with_reducible refine Below.setCell ?_ ?_ _ | omega | (simp; done) | (simp; omega))))).mono ?_
      rintro e w2 ⟨rfl, rfl⟩
      go_wp2_with fail
      refine (HCV.out _ (by (repeat' (first | with_reducible exact Below.refl _ _ | with_reducible assumption | with_reducible refine Below.drew ?_ | with_reducible refine Below_drewN ?_ _ | with_reducible refine Below.alloc ?_ ?_ _ | with_reducible refine Below.setCell ?_ ?_ _ | omega | (simp; done) | (simp; omega))))).mono ?_
      rintro e w2 ⟨rfl, rfl⟩
      go_wp2
      go_round
      case rel => exact ⟨j + 1, met, by omega, rfl, by go_num, HM⟩
      case measure => simp [intOf]; omega

end Go.Proofs.Ytagldmdeohenjaa

/-
  What the document's Serves tells, plainly; what good paths cost.
-/
set_option linter.unusedSimpArgs false
set_option linter.unusedVariables false
namespace Go.St
open Go.RowKit
def servesFrom (f : Flow) : Nat → List Int → Bool
  | met, [] => decide (met = f.via.length)
  | met, s :: r => if s ∈ f.no then false else if s ∈ f.via then (if f.via[met]? = some s then servesFrom f (met + 1) r else false) else servesFrom f met r
def servesB (t : Topo) (f : Flow) (p : List Int) : Bool := (lengthOf t p).2 && (decide (p.head? = some f.src) && (decide (p.getLast? = some f.dst) && servesFrom f 0 p))

theorem serves_all {f : Flow} : ∀ (r : List Int) (met : Nat), servesFrom f met r = true → (∀ s ∈ r, s ∉ f.no) ∧ r.filter (fun s => decide (s ∈ f.via)) = f.via.drop met
  | [], met, h => by
    simp [servesFrom] at h
    refine ⟨by simp, ?_⟩
    rw [h, List.drop_length]; rfl
  | s :: r, met, h => by
    unfold servesFrom at h
    by_cases h1 : s ∈ f.no
    · rw [if_pos h1] at h; cases h
    rw [if_neg h1] at h
    by_cases h2 : s ∈ f.via
    · rw [if_pos h2] at h
      by_cases h3 : f.via[met]? = some s
      · rw [if_pos h3] at h
        obtain ⟨g1, g2⟩ := serves_all r (met + 1) h
        obtain ⟨hl, he⟩ := List.getElem?_eq_some_iff.1 h3
        refine ⟨fun x hx => by rcases List.mem_cons.1 hx with rfl | hx; exact h1; exact g1 x hx, ?_⟩
        rw [List.filter_cons, if_pos (by simpa using h2), g2, List.drop_eq_getElem_cons hl, he]
      · rw [if_neg h3] at h; cases h
    · rw [if_neg h2] at h
      obtain ⟨g1, g2⟩ := serves_all r met h
      refine ⟨fun x hx => by rcases List.mem_cons.1 hx with rfl | hx; exact h1; exact g1 x hx, ?_⟩
      rw [List.filter_cons, if_neg (by simpa using h2), g2]

theorem length_inv {t : Topo} : ∀ (r had : List Int) (n : Int), had.Nodup → (∀ s ∈ had, 0 ≤ s ∧ s < t.n) → linked t had = true → (lengthFrom t had n r).2 = true → (had ++ r).Nodup ∧ (∀ s ∈ had ++ r, 0 ≤ s ∧ s < t.n) ∧ linked t (had ++ r) = true
  | [], had, n, h1, h2, h3, _ => by rw [List.append_nil]; exact ⟨h1, h2, h3⟩
  | s :: r, had, n, h1, h2, h3, h => by
    unfold lengthFrom at h
    by_cases h0 : s < 0 ∨ t.n ≤ s ∨ s ∈ had
    · rw [if_pos h0] at h; cases h
    rw [if_neg h0] at h
    have e1 : had ++ s :: r = (had ++ [s]) ++ r := by simp
    have hnd : (had ++ [s]).Nodup := by
      rw [List.nodup_append]
      exact ⟨h1, List.nodup_cons.2 ⟨by simp, List.nodup_nil⟩, fun a ha b hb e => by
        have hb' : b = s := by simpa using hb
        exact h0 (.inr (.inr (hb' ▸ e ▸ ha)))⟩
    have hrg : ∀ x ∈ had ++ [s], 0 ≤ x ∧ x < t.n := by
      intro x hx
      rcases List.mem_append.1 hx with hx | hx
      · exact h2 x hx
      · have : x = s := by simpa using hx
        subst this
        exact ⟨Int.not_lt.1 fun h => h0 (.inl h), Int.not_le.1 fun h => h0 (.inr (.inl h))⟩
    rw [e1]
    cases hh : had.getLast? with
    | none =>
      have : had = [] := List.getLast?_eq_none_iff.1 hh
      subst this
      rw [hh] at h
      exact length_inv r [s] n hnd hrg rfl h
    | some q =>
      have hne : had ≠ [] := by rintro rfl; cases hh
      have hq : had.getLastD 0 = q := by rw [List.getLastD_eq_getLast?, hh]; rfl
      rw [hh] at h
      dsimp only at h
      by_cases hc : costOf t q s = 0
      · rw [if_pos hc] at h; cases h
      rw [if_neg hc] at h
      exact length_inv r (had ++ [s]) _ hnd hrg (by rw [linked_snoc t had s hne, h3, Bool.true_and, decide_eq_true_eq, hq]; exact hc) h

theorem length_nd {t : Topo} {p : List Int} (h : (lengthOf t p).2 = true) : p.Nodup ∧ (∀ s ∈ p, 0 ≤ s ∧ s < t.n) ∧ linked t p = true := length_inv p [] 0 List.nodup_nil (by simp) rfl h

theorem serves_good {t : Topo} {f : Flow} {p : List Int} (h : servesB t f p = true) : Good t f p := by
  unfold servesB at h
  simp only [Bool.and_eq_true, decide_eq_true_eq] at h
  obtain ⟨h1, h2, h3, h4⟩ := h
  obtain ⟨g1, g2, g3⟩ := length_nd h1
  obtain ⟨k1, k2⟩ := serves_all p 0 h4
  exact ⟨h2, h3, g3, g1, g2, k1, by simpa using k2⟩

theorem length_cost {t : Topo} (hc : ∀ a b, 0 ≤ costOf t a b ∧ costOf t a b ≤ 1000) : ∀ (r had : List Int) (n : Int), (had ++ r).Nodup → (∀ s ∈ had ++ r, 0 ≤ s ∧ s < t.n) → linked t (had ++ r) = true → had ++ r ≠ [] → n = pathCost t had → 0 ≤ n → n ≤ 1000 * had.length → (had ++ r).length ≤ 1000000 →
    lengthFrom t had n r = (pathCost t (had ++ r), true)
  | [], had, n, _, _, _, h, hn, _, _, _ => by
    cases had with
    | nil => simp at h
    | cons a q => simp [lengthFrom, hn]
  | s :: r, had, n, hn, hr, hl, h, hp, h0, h1, hlen => by
    have hs := hr s (by simp)
    have hnm : s ∉ had := fun hm => (List.nodup_append.1 hn).2.2 _ hm _ (by simp) rfl
    have e1 : had ++ s :: r = (had ++ [s]) ++ r := by simp
    unfold lengthFrom
    rw [if_neg (by simp only [not_or]; exact ⟨by omega, by omega, hnm⟩)]
    cases hh : had.getLast? with
    | none =>
      have : had = [] := List.getLast?_eq_none_iff.1 hh
      subst this
      exact length_cost hc r [s] n (by simpa using hn) (by simpa using hr) (by simpa using hl) (by simp) (by simpa [pathCost] using hp) h0 (by simp at h1; simp; omega) (by simpa using hlen)
    | some q =>
      have hne : had ≠ [] := by rintro rfl; cases hh
      have h6 := linked_left t _ _ (e1 ▸ hl)
      rw [linked_snoc t had s hne, Bool.and_eq_true, decide_eq_true_eq] at h6
      have hq : had.getLastD 0 = q := by rw [List.getLastD_eq_getLast?, hh]; rfl
      rw [hq] at h6
      obtain ⟨c0, c1⟩ := hc q s
      have hll : had.length ≤ 1000000 := by simp at hlen; omega
      have hw : IntKind.i64.wrap (n + costOf t q s) = n + costOf t q s := IntWalk.i64_in _ (by omega)
      dsimp only
      rw [if_neg h6.2, hw, e1]
      exact length_cost hc r (had ++ [s]) _ (e1 ▸ hn) (by rw [← e1]; exact hr) (e1 ▸ hl) (by simp) (by rw [pathCost_snoc t had s hne, hq, hp]) (by omega) (by simp; omega) (by rw [← e1]; exact hlen)
theorem good_length {t : Topo} {f : Flow} {p : List Int} (ht : (topoWrong t).1 = 0) (h : Good t f p) : lengthOf t p = (pathCost t p, true) := by
  have hl := nodup_len h.nodup h.rng
  have := (topo_right ht).1
  exact length_cost (cost_range ht) p [] 0 h.nodup h.rng h.link h.ne rfl (Int.le_refl 0) (by simp) (by simp; omega)

theorem lexLe_get : ∀ {p q : List Int}, lexLe p q = true → ∀ (j : Nat), (∀ i, i < j → p[i]? = q[i]?) → j < p.length → (∃ a b, p[j]? = some a ∧ q[j]? = some b ∧ a ≤ b)
  | [], _, _, j, _, hj => by simp at hj
  | a :: r, [], h, _, _, _ => by simp [lexLe] at h
  | a :: r, b :: s, h, j, he, hj => by
    simp only [lexLe, Bool.or_eq_true, Bool.and_eq_true, decide_eq_true_eq] at h
    cases j with
    | zero => exact ⟨a, b, rfl, rfl, by omega⟩
    | succ j =>
      have h0 := he 0 (by omega)
      simp at h0
      subst h0
      have hr : lexLe r s = true := by rcases h with h | h; omega; exact h.2
      have := lexLe_get hr j (fun i hi => by have := he (i + 1) (by omega); simpa using this) (by simpa using hj)
      simpa using this
end Go.St

/-
  A part of a cheapest path is a cheapest path.
-/
set_option linter.unusedSimpArgs false
set_option linter.unusedVariables false
namespace Go.St

theorem linked_right (t : Topo) : ∀ (a b : List Int), linked t (a ++ b) = true → linked t b = true
  | [], _, h => h
  | [x], [], _ => rfl
  | [x], y :: r, h => by simp only [List.cons_append, List.nil_append, linked, Bool.and_eq_true] at h; exact h.2
  | x :: y :: a, b, h => by
    simp only [List.cons_append, linked, Bool.and_eq_true] at h
    exact linked_right t (y :: a) b h.2
theorem pathCost_right {t : Topo} (hc : CostsOk t) : ∀ (a b : List Int), pathCost t b ≤ pathCost t (a ++ b)
  | [], _ => Int.le_refl _
  | [x], [] => Int.le_refl _
  | [x], y :: r => by have := hc x y; simp only [List.cons_append, List.nil_append, pathCost]; omega
  | x :: y :: a, b => by
    have h1 := pathCost_right hc (y :: a) b
    have := hc x y
    simp only [List.cons_append, pathCost] at h1 ⊢
    omega
theorem pathCost_split (t : Topo) (x : Int) : ∀ (a b : List Int), pathCost t (a ++ x :: b) = pathCost t (a ++ [x]) + pathCost t (x :: b)
  | [], b => by simp [pathCost]
  | [y], b => by simp [pathCost]
  | y :: z :: a, b => by
    have h1 := pathCost_split t x (z :: a) b
    simp only [List.cons_append, pathCost] at h1 ⊢
    omega
theorem linked_join (t : Topo) (x : Int) : ∀ (a b : List Int), linked t (a ++ [x]) = true → linked t (x :: b) = true → linked t (a ++ x :: b) = true
  | [], b, _, h => h
  | [y], b, h1, h2 => by
    simp only [List.cons_append, List.nil_append, linked, Bool.and_eq_true] at h1 ⊢
    exact ⟨h1.1, h2⟩
  | y :: z :: a, b, h1, h2 => by
    simp only [List.cons_append, linked, Bool.and_eq_true] at h1 ⊢
    exact ⟨h1.1, linked_join t x (z :: a) b h1.2 h2⟩

/-- a walk has a path that costs no more -/
theorem simple {t : Topo} (hc : CostsOk t) : ∀ (W : List Int), W ≠ [] → linked t W = true →
    ∃ P, P.head? = W.head? ∧ P.getLast? = W.getLast? ∧ linked t P = true ∧ P.Nodup ∧ (∀ s ∈ P, s ∈ W) ∧ pathCost t P ≤ pathCost t W
  | [], h, _ => (h rfl).elim
  | [x], _, _ => ⟨[x], rfl, rfl, rfl, by simp, by simp, Int.le_refl _⟩
  | x :: y :: r, _, hl => by
    simp only [linked, Bool.and_eq_true] at hl
    obtain ⟨P, h1, h2, h3, h4, h5, h6⟩ := simple hc (y :: r) (by simp) hl.2
    have hxy := hc x y
    by_cases hx : x ∈ P
    · obtain ⟨a, b, rfl⟩ := List.append_of_mem hx
      refine ⟨x :: b, rfl, ?_, linked_right t a _ h3, (List.nodup_append.1 h4).2.1, fun s hs => List.mem_cons_of_mem _ (h5 s (List.mem_append_right _ hs)), ?_⟩
      · rw [List.getLast?_cons_cons, ← h2, List.getLast?_append, List.getLast?_eq_some_getLast (by simp : x :: b ≠ [])]
        rfl
      · have := pathCost_right hc a (x :: b)
        simp only [pathCost] at h6 ⊢
        omega
    · obtain ⟨s, P', rfl⟩ : ∃ s P', P = s :: P' := by cases P with | nil => cases h1 | cons s P' => exact ⟨s, P', rfl⟩
      obtain rfl : s = y := by simpa using h1
      refine ⟨x :: s :: P', rfl, ?_, by simp only [linked, Bool.and_eq_true]; exact ⟨hl.1, h3⟩, List.nodup_cons.2 ⟨hx, h4⟩, fun z hz => ?_, ?_⟩
      · rw [List.getLast?_cons_cons, List.getLast?_cons_cons]; exact h2
      · rcases List.mem_cons.1 hz with rfl | hz
        · simp
        · exact List.mem_cons_of_mem _ (h5 z hz)
      · simp only [pathCost] at h6 ⊢
        omega

/-- a part of a cheapest path -/
theorem part_cost {t : Topo} {s d : Int} {j : Nat} (h : (findOf t ⟨s, d, [], []⟩).2 = 0) (hj : j + 1 < (findOf t ⟨s, d, [], []⟩).1.length) {x : Int} (hx : (findOf t ⟨s, d, [], []⟩).1[j]? = some x) :
    (findOf t ⟨x, d, [], []⟩).2 = 0 ∧ Good t ⟨x, d, [], []⟩ ((findOf t ⟨s, d, [], []⟩).1.drop j) ∧ Good t ⟨x, d, [], []⟩ (findOf t ⟨x, d, [], []⟩).1 ∧
      pathCost t ((findOf t ⟨s, d, [], []⟩).1.drop j) = pathCost t (findOf t ⟨x, d, [], []⟩).1 := by
  obtain ⟨ht, hf, hg, hmin⟩ := find_good h
  generalize (findOf t ⟨s, d, [], []⟩).1 = p at *
  have hc : CostsOk t := fun a b => (cost_range ht a b).1
  obtain ⟨hjl, hxe⟩ := List.getElem?_eq_some_iff.1 hx
  have hdrop : p.drop j = x :: p.drop (j + 1) := by rw [List.drop_eq_getElem_cons hjl, hxe]
  have hsplit : p = p.take j ++ x :: p.drop (j + 1) := by rw [← hdrop, List.take_append_drop]
  have hxr := hg.rng x (List.mem_of_getElem? hx)
  have hlast : (p.drop j).getLast? = some d := by
    have := hg.dst
    rw [hsplit, List.getLast?_append, List.getLast?_eq_some_getLast (by simp : x :: p.drop (j + 1) ≠ [])] at this
    rw [hdrop, List.getLast?_eq_some_getLast (by simp : x :: p.drop (j + 1) ≠ [])]
    exact this
  have hnd := hg.nodup
  have hxd : x ≠ d := by
    intro e
    rw [hsplit] at hnd
    have h2 := (List.nodup_append.1 hnd).2.1
    have hne : p.drop (j + 1) ≠ [] := by rw [Ne, List.drop_eq_nil_iff]; omega
    rw [hdrop, List.getLast?_cons, List.getLast?_eq_some_getLast hne] at hlast
    have hm : d ∈ p.drop (j + 1) := by
      have h3 : (p.drop (j + 1)).getLast hne = d := Option.some.inj hlast
      exact h3 ▸ List.getLast_mem hne
    exact (List.nodup_cons.1 h2).1 (e ▸ hm)
  have hgd : Good t ⟨x, d, [], []⟩ (p.drop j) := by
    refine ⟨by rw [hdrop]; rfl, hlast, ?_, ?_, fun z hz => hg.rng z (List.mem_of_mem_drop hz), fun z _ => by simp, by simp⟩
    · have := hg.link; rw [hsplit] at this; rw [hdrop]; exact linked_right t _ _ this
    · rw [hsplit] at hnd; rw [hdrop]; exact (List.nodup_append.1 hnd).2.1
  have hf' : FlowOk t.n ⟨x, d, [], []⟩ := ⟨hxr.1, hxr.2, hf.d0, hf.d1, hxd, List.nodup_nil, by simp, by simp, by simp⟩
  have hfb : flowBad t.n ⟨x, d, [], []⟩ = 0 := by
    have h1 := hf.d0
    have h2 := hf.d1
    dsimp only at h1 h2
    unfold flowBad
    dsimp only
    rw [if_neg (by omega), if_neg hxd]
    simp [listBad]
  have h0 : (findOf t ⟨x, d, [], []⟩).2 = 0 := by
    have L := search_leaves ht hf'
    obtain ⟨b, hb, _⟩ := L.beats (p.drop (j + 1)) (by have := hgd; rw [hdrop] at this; exact this)
    unfold findOf
    rw [if_neg (by simp [ht]), if_neg (by rw [flows1, hfb]; simp), hb]
  obtain ⟨_, _, hg', hmin'⟩ := find_good h0
  refine ⟨h0, hgd, hg', ?_⟩
  generalize (findOf t ⟨x, d, [], []⟩).1 = q at *
  have hle : pathCost t q ≤ pathCost t (p.drop j) := by rcases hmin' _ hgd with h | h <;> omega
  obtain ⟨B, rfl⟩ : ∃ B, q = x :: B := by
    have := hg'.src
    cases q with
    | nil => cases this
    | cons a B => exact ⟨B, by simp at this; rw [this]⟩
  -- the walk
  have hlk : linked t (p.take j ++ [x]) = true := by
    have := hg.link
    rw [hsplit, show p.take j ++ x :: p.drop (j + 1) = (p.take j ++ [x]) ++ p.drop (j + 1) by simp] at this
    exact linked_left t _ _ this
  obtain ⟨P, k1, k2, k3, k4, k5, k6⟩ := simple hc (p.take j ++ x :: B) (by simp) (linked_join t x _ _ hlk hg'.link)
  have hP : Good t ⟨s, d, [], []⟩ P := by
    refine ⟨?_, ?_, k3, k4, fun z hz => ?_, fun z _ => by simp, by simp⟩
    · rw [k1]
      have := hg.src
      rw [hsplit] at this
      rw [List.head?_append] at this ⊢
      simpa using this
    · rw [k2, List.getLast?_append, hg'.dst]; rfl
    · rcases List.mem_append.1 (k5 z hz) with h | h
      · exact hg.rng z (List.mem_of_mem_take h)
      · exact hg'.rng z h
  have hpP : pathCost t p ≤ pathCost t P := by rcases hmin P hP with h | h <;> omega
  have e1 := pathCost_split t x (p.take j) (p.drop (j + 1))
  have e2 := pathCost_split t x (p.take j) B
  rw [← hsplit] at e1
  rw [hdrop] at hle ⊢
  omega
end Go.St

/-
  A path that is gone back costs the same; its parts as much together; plainly.
-/
set_option linter.unusedSimpArgs false
set_option linter.unusedVariables false
namespace Go.St

theorem pathCost_le {t : Topo} (hc : ∀ a b, costOf t a b ≤ 1000) : ∀ p : List Int, pathCost t p ≤ 1000 * p.length
  | [] => by simp [pathCost]
  | [_] => by simp [pathCost]
  | a :: b :: r => by
    have h1 := pathCost_le hc (b :: r)
    have h2 := hc a b
    simp only [pathCost, List.length_cons] at *
    omega

theorem nice {t : Topo} {p : List Int} (ht : (topoWrong t).1 = 0) (hne : p ≠ []) (hnd : p.Nodup) (hrg : ∀ s ∈ p, 0 ≤ s ∧ s < t.n) (hl : linked t p = true) : lengthOf t p = (pathCost t p, true) ∧ 0 ≤ pathCost t p ∧ p.length ≤ 8 := by
  have h8 := nodup_len hnd hrg
  have hn := (topo_right ht).1.2.1
  refine ⟨?_, pathCost_nonneg (fun a b => (cost_range ht a b).1) p, by omega⟩
  have := length_cost (t := t) (cost_range ht) p [] 0 (by simpa using hnd) (by simpa using hrg) (by simpa using hl) (by simpa using hne) rfl (by omega) (by simp) (by simp; omega)
  simpa [lengthOf] using this

theorem last_rev (b : Int) (r : List Int) : (b :: r).reverse.getLastD 0 = b := by simp [List.getLastD_eq_getLast?]
theorem rev_cost (t : Topo) : ∀ p : List Int, pathCost t p.reverse = pathCost t p ∧ linked t p.reverse = linked t p
  | [] => ⟨rfl, rfl⟩
  | [_] => ⟨rfl, rfl⟩
  | a :: b :: r => by
    obtain ⟨h1, h2⟩ := rev_cost t (b :: r)
    have hne : (b :: r).reverse ≠ [] := by simp
    rw [show (a :: b :: r).reverse = (b :: r).reverse ++ [a] by simp]
    rw [pathCost_snoc t _ _ hne, linked_snoc t _ _ hne, last_rev, h1, h2, cost_symm t b a]
    refine ⟨?_, ?_⟩
    · simp only [pathCost]; omega
    · simp only [linked]; rw [Bool.and_comm]

theorem back_cost {t : Topo} {p : List Int} (ht : (topoWrong t).1 = 0) (h : (lengthOf t p).2 = true) :
    lengthOf t p = (pathCost t p, true) ∧ lengthOf t p.reverse = (pathCost t p, true) ∧ p.length ≤ 8 ∧
      ∀ j, j < p.length → ∃ a b, lengthOf t (p.take (j + 1)) = (a, true) ∧ lengthOf t (p.drop j) = (b, true) ∧ a + b = pathCost t p ∧ I64 (a + b) := by
  have hne : p ≠ [] := by
    rintro rfl
    simp [lengthOf, lengthFrom] at h
  obtain ⟨hnd, hrg, hl⟩ := length_nd h
  obtain ⟨n1, n2, n3⟩ := nice ht hne hnd hrg hl
  obtain ⟨r1, r2⟩ := rev_cost t p
  refine ⟨n1, ?_, n3, fun j hj => ?_⟩
  · have := (nice ht (p := p.reverse) (by simpa using hne) ((List.reverse_perm p).nodup_iff.2 hnd) (by simpa using hrg) (by rw [r2]; exact hl)).1
    rw [r1] at this
    exact this
  · have hd : p.drop j = p[j] :: p.drop (j + 1) := List.drop_eq_getElem_cons hj
    have htk : p.take (j + 1) = p.take j ++ [p[j]] := List.take_succ_eq_append_getElem hj
    have hsplit : p = p.take j ++ p[j] :: p.drop (j + 1) := by rw [← hd, List.take_append_drop]
    have hc := pathCost_split t p[j] (p.take j) (p.drop (j + 1))
    rw [← hsplit, ← hd, ← htk] at hc
    have hl1 : linked t (p.take (j + 1)) = true := linked_left t _ (p.drop (j + 1)) (by rw [List.take_append_drop]; exact hl)
    have hl2 : linked t (p.drop j) = true := linked_right t (p.take j) _ (by rw [List.take_append_drop]; exact hl)
    have h1 := nice ht (p := p.take (j + 1)) (by rw [htk]; exact List.append_ne_nil_of_right_ne_nil _ (by simp)) (hnd.sublist (List.take_sublist _ _)) (fun s hs => hrg s (List.mem_of_mem_take hs)) hl1
    have h2 := nice ht (p := p.drop j) (by rw [hd]; exact List.cons_ne_nil _ _) (hnd.sublist (List.drop_sublist _ _)) (fun s hs => hrg s (List.mem_of_mem_drop hs)) hl2
    refine ⟨_, _, h1.1, h2.1, hc.symm, ?_⟩
    rw [← hc]
    have hI : I64 (lengthOf t p).1 → I64 (pathCost t p) := by rw [n1]; exact id
    have hle : pathCost t p ≤ 1000 * p.length := pathCost_le (fun a b => (cost_range ht a b).2) p
    simp only [I64]
    omega
end Go.St

/-
  The contract of the document's Serves.
-/
set_option linter.unusedSimpArgs false
set_option linter.unusedVariables false
namespace Go.St
open Go.RowKit
/-- the ways that are met lie behind -/
def metIn (f : Flow) (p : List Int) (j met : Nat) : Prop := ∀ i, i < met → ∃ x, f.via[i]? = some x ∧ x ∈ p.take j
theorem metIn.step {f : Flow} {p : List Int} {j met : Nat} (hj : j < p.length) (h : metIn f p j met) : metIn f p (j + 1) met := fun i hi => by
  obtain ⟨x, h1, h2⟩ := h i hi
  exact ⟨x, h1, by rw [List.take_succ_eq_append_getElem hj]; exact List.mem_append_left _ h2⟩
theorem metIn.more {f : Flow} {p : List Int} {j met : Nat} (hj : j < p.length) (h : metIn f p j met) (hv : f.via[met]? = some p[j]) : metIn f p (j + 1) (met + 1) := fun i hi => by
  by_cases e : i = met
  · subst e
    exact ⟨_, hv, by rw [List.take_succ_eq_append_getElem hj]; exact List.mem_append_right _ (List.mem_singleton.2 rfl)⟩
  · exact h.step hj i (by omega)
theorem metIn.lt {f : Flow} {p : List Int} {j met : Nat} (hn : p.Nodup) (hj : j < p.length) (h : metIn f p j met) (hv : p[j] ∈ f.via) : met < f.via.length := by
  obtain ⟨i, hi, he⟩ := List.getElem_of_mem hv
  by_cases hlt : i < met
  · exfalso
    obtain ⟨x, h1, h2⟩ := h i hlt
    rw [List.getElem?_eq_getElem hi, he] at h1
    have hx := Option.some.inj h1
    rw [← hx] at h2
    obtain ⟨k, hk, hke⟩ := List.mem_take_iff_getElem.1 h2
    have := nodup_idx hn (by omega) hj hke
    omega
  · omega
theorem sv_no {f : Flow} {p : List Int} {j met : Nat} {b : Bool} (hj : j < p.length) (h : b = servesFrom f met (p.drop j)) (h1 : p[j] ∈ f.no) : b = false := by
  rw [h, List.drop_eq_getElem_cons hj, servesFrom, if_pos h1]
theorem sv_bad {f : Flow} {p : List Int} {j met : Nat} {b : Bool} (hj : j < p.length) (h : b = servesFrom f met (p.drop j)) (h1 : p[j] ∉ f.no) (h2 : p[j] ∈ f.via) (h3 : f.via[met]? ≠ some p[j]) : b = false := by
  rw [h, List.drop_eq_getElem_cons hj, servesFrom, if_neg h1, if_pos h2, if_neg h3]
theorem sv_in {f : Flow} {p : List Int} {j met : Nat} {b : Bool} (hj : j < p.length) (h : b = servesFrom f met (p.drop j)) (h1 : p[j] ∉ f.no) (h2 : p[j] ∈ f.via) (h3 : f.via[met]? = some p[j]) : b = servesFrom f (met + 1) (p.drop (j + 1)) := by
  rw [h, List.drop_eq_getElem_cons hj, servesFrom, if_neg h1, if_pos h2, if_pos h3]
theorem sv_out {f : Flow} {p : List Int} {j met : Nat} {b : Bool} (hj : j < p.length) (h : b = servesFrom f met (p.drop j)) (h1 : p[j] ∉ f.no) (h2 : p[j] ∉ f.via) : b = servesFrom f met (p.drop (j + 1)) := by
  rw [h, List.drop_eq_getElem_cons hj, servesFrom, if_neg h1, if_neg h2]
theorem sv_end {f : Flow} {p : List Int} {j met : Nat} {b : Bool} (hj : ¬ j < p.length) (h : b = servesFrom f met (p.drop j)) : b = decide (met = f.via.length) := by
  rw [h, List.drop_of_length_le (by omega)]; rfl
theorem length_nil (t : Topo) : (lengthOf t []).2 = false := rfl
end Go.St
namespace Go.Proofs.Ytagldmdeohenjaa
open Go.RowKit Go.St

set_option maxRecDepth 100000 in
set_option maxHeartbeats 8000000 in
theorem serves_c (t : Topo) (f : Flow) (p : List Int) (cs ds : List Value) (ok ok' ok'' : Nat → Prop) (pa : Option Addr) (pc : Nat) (w : World) (h : topoS.rep ok w cs t) (hf : flowS.rep ok' w ds f) (hp : rowRep intS ok'' w pa pc p) :
    Calls Try.prog 58 #[.agg cs.toArray, .agg ds.toArray, .slice pa p.length pc] w fun e w' => e = .returned (.bool (servesB t f p)) ∧ Below w.heap.size w w' := by
  have hT := h
  obtain ⟨la, lc, rfl, hn, hr⟩ := h
  obtain ⟨va, vc, na, nc, rfl, hs, hd, hv, hno⟩ := id hf
  have hlx := hp.len_le
  cases hlen : (lengthOf t p).2
  case false =>
    have hS : Hid (servesB t f p = false) := by show _ = _; unfold servesB; rw [hlen]; rfl
    go_enter Try.func58, Try.ntmps58
    go_wp2_with fail
    refine (refLength_c t p _ ok ok'' _ pc _ (topoS.below hT (by (repeat' (first | with_reducible exact Below.refl _ _ | with_reducible assumption | with_reducible refine Below.drew ?_ | with_reducible refine Below_drewN ?_ _ | with_reducible refine Below.alloc ?_ ?_ _ | with_reducible refine Below.setCell ?_ ?_ _ | omega | (simp; done) | (simp; omega))))) (hp.below (by (repeat' (first | with_reducible exact Below.refl _ _ | with_reducible assumption | with_reducible refine Below.drew ?_ | with_reducible refine Below_drewN ?_ _ | with_reducible refine Below.alloc ?_ ?_ _ | with_reducible refine Below.setCell ?_ ?_ _ | omega | (simp; done) | (simp; omega)))))).mono ?_
    rintro e w1 ⟨rfl, hb1⟩
    have hB1 : Below w.heap.size w w1 := Below.trans (by (repeat' (first | with_reducible exact Below.refl _ _ | with_reducible assumption | with_reducible refine Below.drew ?_ | with_reducible refine Below_drewN ?_ _ | with_reducible refine Below.alloc ?_ ?_ _ | with_reducible refine Below.setCell ?_ ?_ _ | omega | (simp; done) | (simp; omega)))) (hb1.mono (by simp; omega))
    have hF1 : blockIs w1 (w.heap.size + 1) 64 #[.int .i64 f.src, .int .i64 f.dst, .slice va f.via.length vc, .slice na f.no.length nc] := (blockIs.new (by simp)).under hb1
    obtain ⟨f1, f2⟩ := hF1.cells
    have hz1 := hF1.lt
    rw [hlen]
    clear hb1
    go_wp2
    go_quiet (fail)
    go_wp2
    go_ret; exact ⟨ret_bool hS.out.symm, by (repeat' (first | with_reducible exact Below.refl _ _ | with_reducible assumption | with_reducible refine Below.drew ?_ | with_reducible refine Below_drewN ?_ _ | with_reducible refine Below.alloc ?_ ?_ _ | with_reducible refine Below.setCell ?_ ?_ _ | omega | (simp; done) | (simp; omega)))⟩
  have hpne : p ≠ [] := by rintro rfl; rw [length_nil] at hlen; cases hlen
  have hp0 : 0 < p.length := List.length_pos_iff.2 hpne
  obtain ⟨hnd, _, _⟩ := length_nd hlen
  obtain ⟨pb, po, rfl, _, hpb, _⟩ := hp.get (List.getElem?_eq_getElem hp0)
  have hcell : ∀ (w' : World) (hw : Below w.heap.size w w') (m : Nat) (hm : m < p.length), w'.cell? ⟨pb, po + m, none⟩ = some (.int .i64 p[m]) := by
    intro w' hw m hm
    obtain ⟨pb', po', hbo, _, _, cs', ⟨rfl, _⟩, hce⟩ := hp.get (List.getElem?_eq_getElem hm)
    obtain ⟨rfl, rfl⟩ : pb = pb' ∧ po = po' := by simpa using hbo
    have := cell_at hw hpb (hce 0 _ rfl)
    simpa only [intS, Nat.add_zero, Nat.mul_one] using this
  have HCE := Lib.hid hcell
  clear hcell
  have hS : Hid (servesB t f p = (decide (p.head? = some f.src) && (decide (p.getLast? = some f.dst) && servesFrom f 0 p))) := by show _ = _; unfold servesB; rw [hlen]; rfl
  have q0 : p.head? = some p[0] := by rw [List.head?_eq_getElem?, List.getElem?_eq_getElem hp0]
  have q1 : p.getLast? = some (p[p.length - 1]'(by omega)) := by rw [List.getLast?_eq_getElem?, List.getElem?_eq_getElem (by omega)]
  have hS1 : Hid (p[0] ≠ f.src → servesB t f p = false) := fun h => by rw [hS.out, q0]; simp [h]
  have hS2 : Hid (p[0] = f.src → p[p.length - 1]'(by omega) ≠ f.dst → servesB t f p = false) := fun h1 h2 => by rw [hS.out, q1]; simp [h2]
  have hS3 : Hid (p[0] = f.src → p[p.length - 1]'(by omega) = f.dst → servesB t f p = servesFrom f 0 (p.drop 0)) := fun h1 h2 => by rw [hS.out, q0, q1, h1, h2]; simp
  clear hS q0 q1
  generalize servesB t f p = bb at *
  go_enter Try.func58, Try.ntmps58
  go_wp2_with fail
  refine (refLength_c t p _ ok ok'' _ pc _ (topoS.below hT (by (repeat' (first | with_reducible exact Below.refl _ _ | with_reducible assumption | with_reducible refine Below.drew ?_ | with_reducible refine Below_drewN ?_ _ | with_reducible refine Below.alloc ?_ ?_ _ | with_reducible refine Below.setCell ?_ ?_ _ | omega | (simp; done) | (simp; omega))))) (hp.below (by (repeat' (first | with_reducible exact Below.refl _ _ | with_reducible assumption | with_reducible refine Below.drew ?_ | with_reducible refine Below_drewN ?_ _ | with_reducible refine Below.alloc ?_ ?_ _ | with_reducible refine Below.setCell ?_ ?_ _ | omega | (simp; done) | (simp; omega)))))).mono ?_
  rintro e w1 ⟨rfl, hb1⟩
  have hB1 : Below w.heap.size w w1 := Below.trans (by (repeat' (first | with_reducible exact Below.refl _ _ | with_reducible assumption | with_reducible refine Below.drew ?_ | with_reducible refine Below_drewN ?_ _ | with_reducible refine Below.alloc ?_ ?_ _ | with_reducible refine Below.setCell ?_ ?_ _ | omega | (simp; done) | (simp; omega)))) (hb1.mono (by simp; omega))
  have hF1 : blockIs w1 (w.heap.size + 1) 64 #[.int .i64 f.src, .int .i64 f.dst, .slice va f.via.length vc, .slice na f.no.length nc] := (blockIs.new (by simp)).under hb1
  obtain ⟨f1, f2⟩ := hF1.cells
  have hz1 := hF1.lt
  rw [hlen]
  clear hb1 hlen
  have e0 := HCE.out w1 hB1 0 hp0
  have e1 := HCE.out w1 hB1 (p.length - 1) (by omega)
  rw [Nat.add_zero] at e0
  have k1 : IntKind.i64.wrap ((p.length : Int) - 1) = ((p.length - 1 : Nat) : Int) := by rw [IntWalk.i64_in _ (by omega)]; omega
  have k2 : (0 : Int) ≤ ((p.length - 1 : Nat) : Int) := by omega
  have k3 : ((p.length - 1 : Nat) : Int) < (p.length : Int) := by omega
  have k4 : (((p.length - 1 : Nat) : Int)).toNat = p.length - 1 := by omega
  have k5 : (0 : Int) < (p.length : Int) := by omega
  by_cases c0 : p[0] = f.src
  case neg =>
    have HH := Lib.hid (hS1.out c0)
    have c0' : (p[0] != f.src) = true := by rw [bne_iff_ne]; exact c0
    clear hS1 hS2 hS3 c0 HCE
    generalize p[0] = x0 at *
    go_wp2
    go_quiet (fail)
    go_wp2
    go_ret; exact ⟨ret_bool HH.out.symm, by (repeat' (first | with_reducible exact Below.refl _ _ | with_reducible assumption | with_reducible refine Below.drew ?_ | with_reducible refine Below_drewN ?_ _ | with_reducible refine Below.alloc ?_ ?_ _ | with_reducible refine Below.setCell ?_ ?_ _ | omega | (simp; done) | (simp; omega)))⟩
  by_cases c1 : p[p.length - 1]'(by omega) = f.dst
  case neg =>
    have HH := Lib.hid (hS2.out c0 c1)
    have c1' : (p[p.length - 1]'(by omega) != f.dst) = true := by rw [bne_iff_ne]; exact c1
    rw [c0] at e0
    clear hS1 hS2 hS3 c1 HCE c0
    generalize p[p.length - 1]'(by omega) = x1 at *
    go_wp2
    go_quiet (fail)
    go_wp2
    go_ret; exact ⟨ret_bool HH.out.symm, by (repeat' (first | with_reducible exact Below.refl _ _ | with_reducible assumption | with_reducible refine Below.drew ?_ | with_reducible refine Below_drewN ?_ _ | with_reducible refine Below.alloc ?_ ?_ _ | with_reducible refine Below.setCell ?_ ?_ _ | omega | (simp; done) | (simp; omega)))⟩
  have hst := Lib.hid (hS3.out c0 c1)
  rw [c0] at e0
  rw [c1] at e1
  clear hS1 hS2 hS3 c0 c1
  go_wp2
  go_quiet (fail)
  go_wp2
  go_loop [9, 11, 41] (fun m _ i => ∃ j met : Nat, j ≤ p.length ∧ met ≤ j ∧ m = .int .i64 met ∧ i = .int .i64 j ∧ Hid (bb = servesFrom f met (p.drop j)) ∧ Hid (metIn f p j met)) (fun _ _ i => p.length - (intOf i).toNat)
  case atStart => exact ⟨0, 0, Nat.zero_le _, Nat.le_refl _, rfl, rfl, hst, by show metIn _ _ _ _; intro i hi; omega⟩
  case round =>
    obtain ⟨j, met, hj, hmj, rfl, rfl, hall, hmet⟩ := hrel
    by_cases hlt : j < p.length
    case neg =>
      have HE := Lib.hid (sv_end hlt hall.out)
      have b1 : ¬ (j : Int) < (p.length : Int) := by omega
      clear hmet hall
      by_cases hm : met = f.via.length
      · have hm' : ((met : Int) == (f.via.length : Int)) = true := by rw [beq_iff_eq]; omega
        have HM : Hid (bb = true) := by show _ = _; rw [HE.out]; exact decide_eq_true hm
        clear hm HE
        go_wp2
        go_ret; exact ⟨ret_bool HM.out.symm, by (repeat' (first | with_reducible exact Below.refl _ _ | with_reducible assumption | with_reducible refine Below.drew ?_ | with_reducible refine Below_drewN ?_ _ | with_reducible refine Below.alloc ?_ ?_ _ | with_reducible refine Below.setCell ?_ ?_ _ | omega | (simp; done) | (simp; omega)))⟩
      · have hm' : ((met : Int) == (f.via.length : Int)) = false := by rw [beq_eq_false_iff_ne]; omega
        have HM : Hid (bb = false) := by show _ = _; rw [HE.out]; exact decide_eq_false hm
        clear hm HE
        go_wp2
        go_ret; exact ⟨ret_bool HM.out.symm, by (repeat' (first | with_reducible exact Below.refl _ _ | with_reducible assumption | with_reducible refine Below.drew ?_ | with_reducible refine Below_drewN ?_ _ | with_reducible refine Below.alloc ?_ ?_ _ | with_reducible refine Below.setCell ?_ ?_ _ | omega | (simp; done) | (simp; omega)))⟩
    have e2 := HCE.out w1 hB1 j hlt
    have hcn := fun w' (hw : Below w.heap.size w w') => in_c f.no p[j] ok' na nc w' (hno.below hw)
    have hcv := fun w' (hw : Below w.heap.size w w') => in_c f.via p[j] ok' va vc w' (hv.below hw)
    have b0 : (0 : Int) ≤ (j : Int) := by omega
    have b1 : (j : Int) < (p.length : Int) := by omega
    by_cases hno' : p[j] ∈ f.no
    · have HH := Lib.hid (sv_no hlt hall.out hno')
      rw [decide_eq_true hno'] at hcn
      have HCN := Lib.hid hcn
      clear hall hmet hno' hcn hcv
      generalize p[j] = s at *
      go_wp2_with fail
      refine (HCN.out _ (by (repeat' (first | with_reducible exact Below.refl _ _ | with_reducible assumption | with_reducible refine Below.drew ?_ | with_reducible refine Below_drewN ?_ _ | with_reducible refine Below.alloc ?_ ?_ _ | with_reducible refine Below.setCell ?_ ?_ _ | omega | (simp; done) | (simp; omega))))).mono ?_
      rintro e w2 ⟨rfl, rfl⟩
      go_wp2
      go_ret; exact ⟨ret_bool HH.out.symm, by (repeat' (first | with_reducible exact Below.refl _ _ | with_reducible assumption | with_reducible refine Below.drew ?_ | with_reducible refine Below_drewN ?_ _ | with_reducible refine Below.alloc ?_ ?_ _ | with_reducible refine Below.setCell ?_ ?_ _ | omega | (simp; done) | (simp; omega)))⟩
    rw [decide_eq_false hno'] at hcn
    have HCN := Lib.hid hcn
    clear hcn
    by_cases hvia : p[j] ∈ f.via
    · have hml := hmet.out.lt hnd hlt hvia
      obtain ⟨vb, vo, rfl, _, hvb, cs', ⟨rfl, _⟩, hce⟩ := hv.get (List.getElem?_eq_getElem hml)
      have e3 := cell_at hB1 hvb (hce 0 _ rfl)
      simp only [intS, Nat.add_zero, Nat.mul_one] at e3
      have d0 : (0 : Int) ≤ (met : Int) := by omega
      have d1 : (met : Int) < (f.via.length : Int) := by omega
      have d2 : IntKind.i64.wrap ((met : Int) + 1) = (met : Int) + 1 := IntWalk.i64_in _ (by omega)
      rw [decide_eq_true hvia] at hcv
      have HCV := Lib.hid hcv
      clear hce hcv
      by_cases hvs : f.via[met] = p[j]
      · have hsome : f.via[met]? = some p[j] := by rw [List.getElem?_eq_getElem hml, hvs]
        have HM := Lib.hid (hmet.out.more hlt hsome)
        have HA := Lib.hid (sv_in hlt hall.out hno' hvia hsome)
        rw [hvs] at e3
        clear hvs hsome hmet hall hno' hvia
        generalize p[j] = s at *
        go_wp2_with fail
        refine (HCN.out _ (by (repeat' (first | with_reducible exact Below.refl _ _ | with_reducible assumption | with_reducible refine Below.drew ?_ | with_reducible refine Below_drewN ?_ _ | with_reducible refine Below.alloc ?_ ?_ _ | with_reducible refine Below.setCell ?_ ?_ _ | omega | (simp; done) | (simp; omega))))).mono ?_
        rintro e w2 ⟨rfl, rfl⟩
        go_wp2_with fail
        refine (HCV.out _ (by (repeat' (first | with_reducible exact Below.refl _ _ | with_reducible assumption | with_reducible refine Below.drew ?_ | with_reducible refine Below_drewN ?_ _ | with_reducible refine Below.alloc ?_ ?_ _ | with_reducible refine Below.setCell ?_ ?_ _ | omega | (simp; done) | (simp; omega))))).mono ?_
        rintro e w2 ⟨rfl, rfl⟩
        go_wp2
        go_round
        case rel => exact ⟨j + 1, met + 1, by omega, by omega, by go_num, by go_num, HA, HM⟩
        case measure => simp [intOf]; omega
      · have hsome : f.via[met]? ≠ some p[j] := by rw [List.getElem?_eq_getElem hml]; intro h; exact hvs (Option.some.inj h)
        have HH := Lib.hid (sv_bad hlt hall.out hno' hvia hsome)
        have hvs' : (f.via[met] != p[j]) = true := by rw [bne_iff_ne]; exact hvs
        clear hvs hsome hmet hall hno' hvia
        generalize p[j] = s at *
        generalize f.via[met] = v at *
        go_wp2_with fail
        refine (HCN.out _ (by (repeat' (first | with_reducible exact Below.refl _ _ | with_reducible assumption | with_reducible refine Below.drew ?_ | with_reducible refine Below_drewN ?_ _ | with_reducible refine Below.alloc ?_ ?_ _ | with_reducible refine Below.setCell ?_ ?_ _ | omega | (simp; done) | (simp; omega))))).mono ?_
        rintro e w2 ⟨rfl, rfl⟩
        go_wp2_with fail
        refine (HCV.out _ (by (repeat' (first | with_reducible exact Below.refl _ _ | with_reducible assumption | with_reducible refine Below.drew ?_ | with_reducible refine Below_drewN ?_ _ | with_reducible refine Below.alloc ?_ ?_ _ | with_reducible refine Below.setCell ?_ ?_ _ | omega | (simp; done) | (simp; omega))))).mono ?_
        rintro e w2 ⟨rfl, rfl⟩
        go_wp2
        go_ret; exact ⟨ret_bool HH.out.symm, by (repeat' (first | with_reducible exact Below.refl _ _ | with_reducible assumption | with_reducible refine Below.drew ?_ | with_reducible refine Below_drewN ?_ _ | with_reducible refine Below.alloc ?_ ?_ _ | with_reducible refine Below.setCell ?_ ?_ _ | omega | (simp; done) | (simp; omega)))⟩
    · have HM := Lib.hid (hmet.out.step hlt)
      have HA := Lib.hid (sv_out hlt hall.out hno' hvia)
      rw [decide_eq_false hvia] at hcv
      have HCV := Lib.hid hcv
      clear hmet hall hvia hno' hcv
      generalize p[j] = s at *
      go_wp2_with fail
      refine (HCN.out _ (by (repeat' (first | with_reducible exact Below.refl _ _ | with_reducible assumption | with_reducible refine Below.drew ?_ | with_reducible refine Below_drewN ?_ _ | with_reducible refine Below.alloc ?_ ?_ _ | with_reducible refine Below.setCell ?_ ?_ _ | omega | (simp; done) | (simp; omega))))).mono ?_
      rintro e w2 ⟨rfl, rfl⟩
      go_wp2_with fail
      refine (HCV.out _ (by (repeat' (first | with_reducible exact Below.refl _ _ | with_reducible assumption | with_reducible refine Below.drew ?_ | with_reducible refine Below_drewN ?_ _ | with_reducible refine Below.alloc ?_ ?_ _ | with_reducible refine Below.setCell ?_ ?_ _ | omega | (simp; done) | (simp; omega))))).mono ?_
      rintro e w2 ⟨rfl, rfl⟩
      go_wp2
      go_round
      case rel => exact ⟨j + 1, met, by omega, by omega, rfl, by go_num, HA, HM⟩
      case measure => simp [intOf]; omega

end Go.Proofs.Ytagldmdeohenjaa

/-
  The walk of PathLeast.
-/
set_option linter.unusedSimpArgs false
set_option linter.unusedVariables false
namespace Go.St
open Go.RowKit
theorem linkBad_ne {n : Int} {had : List (Int × Int)} {l : Link} : linkBad n had l ≠ 9 := by
  unfold linkBad
  repeat' split
  all_goals decide
theorem linksBad_ne {n : Int} : ∀ {ls : List Link} {had : List (Int × Int)} {i : Int}, (linksBad n had i ls).1 ≠ 9
  | [], _, _ => by simp [linksBad]
  | l :: r, had, i => by
    unfold linksBad
    split
    · exact linksBad_ne
    · exact linkBad_ne
theorem topoWrong_ne {t : Topo} : (topoWrong t).1 ≠ 9 := by
  unfold topoWrong
  split
  · decide
  · exact linksBad_ne
theorem listBad_ne {n s d : Int} : ∀ {l had : List Int}, listBad n s d had l ≠ 9
  | [], _ => by simp [listBad]
  | x :: r, had => by
    unfold listBad
    split
    · decide
    split
    · decide
    split
    · decide
    exact listBad_ne
theorem flowBad_ne {n : Int} {f : Flow} : flowBad n f ≠ 9 := by
  unfold flowBad
  split
  · decide
  split
  · decide
  split
  · exact listBad_ne
  split
  · exact listBad_ne
  split <;> decide
theorem find_none {t : Topo} {f : Flow} (h : (findOf t f).2 = 9) : ∀ q, ¬ Good t f q := by
  unfold findOf at h
  by_cases h1 : (topoWrong t).1 = 0
  case neg => rw [if_pos h1] at h; exact absurd h topoWrong_ne
  rw [if_neg (by simp [h1])] at h
  by_cases h2 : (flowsWrong [f] t.n).1 = 0
  case neg => rw [if_pos h2] at h; exact absurd (flows1 ▸ h) flowBad_ne
  have hf := flowBad_zero (flows1 ▸ h2)
  have L := search_leaves h1 hf
  intro q hq
  obtain ⟨s, r, rfl⟩ : ∃ s r, q = s :: r := by cases q with | nil => have := hq.src; cases this | cons s r => exact ⟨s, r, rfl⟩
  obtain rfl : s = f.src := by have := hq.src; simpa using this
  obtain ⟨b, hb', _⟩ := L.beats r hq
  rw [if_neg (by simp [h2]), hb'] at h
  cases h
theorem good_prefix {t : Topo} {f : Flow} {p q : List Int} (hp : Good t f p) (hq : Good t f q) (h : ∀ i, i < p.length → p[i]? = q[i]?) : p.length = q.length := by
  have hle : p.length ≤ q.length := by
    by_cases hl : p.length ≤ q.length
    · exact hl
    · exfalso
      have := h q.length (by omega)
      rw [List.getElem?_eq_getElem (by omega), List.getElem?_eq_none (Nat.le_refl _)] at this
      cases this
  have ht : q.take p.length = p := List.ext_getElem? fun i => by
    rw [List.getElem?_take]
    by_cases hi : i < p.length
    · rw [if_pos hi, h i hi]
    · rw [if_neg hi, List.getElem?_eq_none (by omega)]
  have e : q = p ++ q.drop p.length := by
    have := List.take_append_drop p.length q
    rw [ht] at this
    exact this.symm
  by_cases hr : q.drop p.length = []
  · have := List.drop_eq_nil_iff.1 hr
    omega
  · exfalso
    have hd := hq.dst
    rw [e, List.getLast?_append, List.getLast?_eq_some_getLast hr] at hd
    simp only [Option.some_or] at hd
    have m1 : f.dst ∈ q.drop p.length := by
      have := Option.some.inj hd
      rw [← this]; exact List.getLast_mem _
    have m2 : f.dst ∈ p := List.mem_of_getLast? hp.dst
    have hn := hq.nodup
    rw [e] at hn
    exact (List.nodup_append.1 hn).2.2 _ m2 _ m1 rfl
end Go.St
namespace Go.Proofs.Ytagldmdeohenjaa
open Go.RowKit Go.St
end Go.Proofs.Ytagldmdeohenjaa

/-
  All paths to a switch, as the document goes through them, plainly; rows of rows under append.
-/
set_option linter.unusedSimpArgs false
set_option linter.unusedVariables false
namespace Go.St
open Go.RowKit

def allUp (t : Topo) (rest : List Int → List (List Int)) (p : List Int) : Nat → List (List Int)
  | 0 => []
  | k + 1 => if (k : Int) ∉ p ∧ 0 < costOf t (p.getLastD 0) k then allUp t rest p k ++ rest (p ++ [(k : Int)]) else allUp t rest p k
def allP (t : Topo) (to : Int) : Nat → List Int → List (List Int)
  | 0, _ => []
  | f + 1, p => if p.getLastD 0 = to then [p] else allUp t (allP t to f) p t.n.toNat

theorem allUp_len {t : Topo} {rest : List Int → List (List Int)} {p : List Int} {B : Nat} (h : ∀ q, (rest q).length ≤ B) : ∀ k, (allUp t rest p k).length ≤ k * B
  | 0 => by simp [allUp]
  | k + 1 => by
    have h1 := allUp_len h (t := t) (p := p) k
    have h2 := h (p ++ [(k : Int)])
    unfold allUp
    rw [Nat.add_mul, Nat.one_mul]
    split
    · rw [List.length_append]; omega
    · omega
theorem allP_len {t : Topo} {to : Int} (hn : t.n ≤ 8) : ∀ (f : Nat) (p : List Int), (allP t to f p).length ≤ 8 ^ f
  | 0, _ => by simp [allP]
  | f + 1, p => by
    have h1 : 1 ≤ 8 ^ f := Nat.one_le_pow _ _ (by decide)
    unfold allP
    split
    · rw [List.length_singleton, Nat.pow_succ]; omega
    · have := allUp_len (t := t) (rest := allP t to f) (p := p) (B := 8 ^ f) (fun q => allP_len hn f q) t.n.toNat
      rw [Nat.pow_succ, Nat.mul_comm]
      exact Nat.le_trans this (Nat.mul_le_mul_right _ (by omega))

end Go.St

/-
  The document's way to the best path, plainly: all paths, and the first one of those that cost least.
-/
set_option linter.unusedSimpArgs false
set_option linter.unusedVariables false
namespace Go.St

theorem lexLe_antisymm : ∀ {a b : List Int}, lexLe a b = true → lexLe b a = true → a = b
  | [], [], _, _ => rfl
  | [], _ :: _, _, h => by simp [lexLe] at h
  | _ :: _, [], h, _ => by simp [lexLe] at h
  | x :: a, y :: b, h1, h2 => by
    simp only [lexLe, Bool.or_eq_true, Bool.and_eq_true, decide_eq_true_eq] at h1 h2
    rcases h1 with h1 | ⟨rfl, h1⟩
    · rcases h2 with h2 | ⟨h3, _⟩ <;> omega
    · rcases h2 with h2 | ⟨_, h2⟩
      · omega
      · rw [lexLe_antisymm h1 h2]
theorem lexLe_fork2 {a b : Int} (h : a < b) (r s : List Int) : ∀ p : List Int, lexLe (p ++ a :: r) (p ++ b :: s) = true
  | [] => by simp [lexLe, h]
  | x :: p => by
    have := lexLe_fork2 h r s p
    simp [lexLe, this]
theorem allUp_mem {t : Topo} {rest : List Int → List (List Int)} {p q : List Int} : ∀ {k : Nat}, q ∈ allUp t rest p k ↔ ∃ j : Nat, j < k ∧ (j : Int) ∉ p ∧ 0 < costOf t (p.getLastD 0) j ∧ q ∈ rest (p ++ [(j : Int)])
  | 0 => by simp [allUp]
  | k + 1 => by
    unfold allUp
    have ih := allUp_mem (t := t) (rest := rest) (p := p) (q := q) (k := k)
    split
    · rename_i h
      rw [List.mem_append, ih]
      constructor
      · rintro (⟨j, h1, h2⟩ | h1)
        · exact ⟨j, by omega, h2⟩
        · exact ⟨k, by omega, h.1, h.2, h1⟩
      · rintro ⟨j, h1, h2, h3, h4⟩
        by_cases hj : j < k
        · exact .inl ⟨j, hj, h2, h3, h4⟩
        · obtain rfl : j = k := by omega
          exact .inr h4
    · rename_i h
      rw [ih]
      constructor
      · rintro ⟨j, h1, h2⟩; exact ⟨j, by omega, h2⟩
      · rintro ⟨j, h1, h2, h3, h4⟩
        by_cases hj : j < k
        · exact ⟨j, hj, h2, h3, h4⟩
        · obtain rfl : j = k := by omega
          exact absurd ⟨h2, h3⟩ h
theorem allP_pre {t : Topo} {to : Int} : ∀ (f : Nat) (p q : List Int), q ∈ allP t to f p → p <+: q
  | 0, _, _, h => by simp [allP] at h
  | f + 1, p, q, h => by
    unfold allP at h
    split at h
    · rw [List.mem_singleton.1 h]; exact List.prefix_refl _
    · obtain ⟨j, _, _, _, h4⟩ := allUp_mem.1 h
      exact (List.prefix_append p [(j : Int)]).trans (allP_pre f _ _ h4)
theorem allP_sorted {t : Topo} {to : Int} : ∀ (f : Nat) (p : List Int), (allP t to f p).Pairwise (fun a b => lexLe a b = true)
  | 0, _ => List.Pairwise.nil
  | f + 1, p => by
    unfold allP
    split
    · exact List.pairwise_singleton _ _
    · generalize t.n.toNat = k
      induction k with
      | zero => exact List.Pairwise.nil
      | succ k ih =>
        unfold allUp
        split
        · refine List.pairwise_append.2 ⟨ih, allP_sorted f _, fun a ha b hb => ?_⟩
          obtain ⟨j, h1, _, _, h4⟩ := allUp_mem.1 ha
          obtain ⟨r, rfl⟩ := allP_pre f _ _ h4
          obtain ⟨s, rfl⟩ := allP_pre f _ _ hb
          rw [List.append_assoc, List.append_assoc]
          exact lexLe_fork2 (by omega) r s p
        · exact ih
theorem allP_sound {t : Topo} {to : Int} : ∀ (f : Nat) (p q : List Int), q ∈ allP t to f p → p ≠ [] → p.Nodup → (∀ s ∈ p, 0 ≤ s ∧ s < t.n) → linked t p = true →
    q.getLast? = some to ∧ q.Nodup ∧ (∀ s ∈ q, 0 ≤ s ∧ s < t.n) ∧ linked t q = true
  | 0, _, _, h, _, _, _, _ => by simp [allP] at h
  | f + 1, p, q, h, hne, hnd, hrg, hl => by
    unfold allP at h
    split at h
    · rename_i hlast
      rw [List.mem_singleton.1 h]
      refine ⟨?_, hnd, hrg, hl⟩
      rw [List.getLastD_eq_getLast?, List.getLast?_eq_some_getLast hne] at hlast
      rw [List.getLast?_eq_some_getLast hne]
      exact congrArg some hlast
    · obtain ⟨j, h1, h2, h3, h4⟩ := allUp_mem.1 h
      refine allP_sound f _ q h4 (by simp) ?_ ?_ ?_
      · rw [List.nodup_append]
        exact ⟨hnd, by simp, by intro a ha b hb; simp at hb; rw [hb]; exact fun e => h2 (e ▸ ha)⟩
      · intro s hs
        rcases List.mem_append.1 hs with hs | hs
        · exact hrg s hs
        · simp at hs; omega
      · rw [linked_snoc t _ _ hne, hl, Bool.true_and, decide_eq_true_eq]
        omega
theorem allP_complete {t : Topo} {to : Int} (hc : CostsOk t) : ∀ (f : Nat) (p q : List Int), p ≠ [] → p <+: q → q.Nodup → (∀ s ∈ q, 0 ≤ s ∧ s < t.n) → linked t q = true → q.getLast? = some to → q.length < p.length + f → q ∈ allP t to f p
  | 0, p, q, _, hp, _, _, _, _, hl => absurd hp.length_le (by omega)
  | f + 1, p, q, hne, ⟨r, hr⟩, hnd, hrg, hlk, hlast, hl => by
    unfold allP
    have hpl : p.getLastD 0 = p.getLast hne := by rw [List.getLastD_eq_getLast?, List.getLast?_eq_some_getLast hne]; rfl
    cases r with
    | nil =>
      rw [List.append_nil] at hr
      subst hr
      rw [if_pos (by rw [hpl]; rw [List.getLast?_eq_some_getLast hne] at hlast; exact Option.some.inj hlast)]
      simp
    | cons s r =>
      have hto : to ∈ s :: r := by
        rw [← hr, List.getLast?_append, List.getLast?_eq_some_getLast (by simp : s :: r ≠ [])] at hlast
        have : (s :: r).getLast (by simp) = to := by simpa using hlast
        rw [← this]
        exact List.getLast_mem _
      have hnd' := hnd
      rw [← hr] at hnd'
      obtain ⟨_, _, hdis⟩ := List.nodup_append.1 hnd'
      rw [if_neg (by rw [hpl]; exact fun e => hdis _ (List.getLast_mem hne) _ hto e)]
      have hs := hrg s (by rw [← hr]; simp)
      refine allUp_mem.2 ⟨s.toNat, by omega, ?_, ?_, ?_⟩
      · rw [show ((s.toNat : Nat) : Int) = s by omega]
        exact fun hm => hdis _ hm s (by simp) rfl
      · rw [show ((s.toNat : Nat) : Int) = s by omega]
        have hlk2 : linked t (p ++ [s]) = true := by
          have : linked t ((p ++ [s]) ++ r) = true := by rw [List.append_assoc]; show linked t (p ++ s :: r) = true; rw [hr]; exact hlk
          exact linked_left t _ _ this
        rw [linked_snoc t _ _ hne] at hlk2
        simp only [Bool.and_eq_true, decide_eq_true_eq] at hlk2
        have := hc (p.getLastD 0) s
        omega
      · rw [show ((s.toNat : Nat) : Int) = s by omega]
        exact allP_complete hc f (p ++ [s]) q (by simp) ⟨r, by rw [List.append_assoc]; exact hr⟩ hnd hrg hlk hlast (by simp; omega)

theorem serves_from {f : Flow} : ∀ (r : List Int) (met : Nat), (∀ s ∈ r, s ∉ f.no) → r.filter (fun s => decide (s ∈ f.via)) = f.via.drop met → met ≤ f.via.length → servesFrom f met r = true
  | [], met, _, h, hm => by
    simp only [List.filter_nil] at h
    have := congrArg List.length h
    simp at this
    simp [servesFrom]
    omega
  | s :: r, met, hno, h, hm => by
    unfold servesFrom
    rw [if_neg (hno s (by simp))]
    by_cases hv : s ∈ f.via
    · rw [if_pos hv]
      rw [List.filter_cons, if_pos (by simpa using hv)] at h
      have hml : met < f.via.length := by
        have := congrArg List.length h
        simp at this
        omega
      rw [List.drop_eq_getElem_cons hml] at h
      obtain ⟨h1, h2⟩ := List.cons.inj h
      rw [if_pos (by rw [List.getElem?_eq_getElem hml, h1])]
      exact serves_from r (met + 1) (fun x hx => hno x (List.mem_cons_of_mem _ hx)) h2 hml
    · rw [if_neg hv]
      rw [List.filter_cons, if_neg (by simpa using hv)] at h
      exact serves_from r met (fun x hx => hno x (List.mem_cons_of_mem _ hx)) h hm
theorem good_servesB {t : Topo} {f : Flow} {p : List Int} (ht : (topoWrong t).1 = 0) (h : Good t f p) : servesB t f p = true := by
  unfold servesB
  rw [good_length ht h, serves_from p 0 h.no (by simpa using h.via) (Nat.zero_le _)]
  simp [h.src, h.dst]

/-- the better one -/
def better (t : Topo) (f : Flow) (b p : List Int) : List Int := if servesB t f p = true ∧ (b = [] ∨ (lengthOf t p).1 < (lengthOf t b).1) then p else b
structure BestR (t : Topo) (f : Flow) (L : List (List Int)) (b : List Int) : Prop where
  none : b = [] → ∀ p ∈ L, servesB t f p = false
  some : b ≠ [] → b ∈ L ∧ servesB t f b = true ∧ ∀ p ∈ L, servesB t f p = true → (lengthOf t b).1 < (lengthOf t p).1 ∨ ((lengthOf t b).1 = (lengthOf t p).1 ∧ lexLe b p = true)
theorem BestR.step {t : Topo} {f : Flow} {L : List (List Int)} {b p : List Int} (h : BestR t f L b) (hp : p ≠ []) (hs : ∀ q ∈ L, lexLe q p = true) : BestR t f (L ++ [p]) (better t f b p) := by
  unfold better
  by_cases h1 : servesB t f p = true ∧ (b = [] ∨ (lengthOf t p).1 < (lengthOf t b).1)
  · rw [if_pos h1]
    refine ⟨fun h => absurd h hp, fun _ => ⟨by simp, h1.1, fun q hq hsq => ?_⟩⟩
    rcases List.mem_append.1 hq with hq | hq
    · by_cases hb : b = []
      · rw [h.none hb q hq] at hsq; cases hsq
      · have := (h.some hb).2.2 q hq hsq
        have := h1.2.resolve_left hb
        omega
    · simp only [List.mem_singleton] at hq
      subst hq
      exact .inr ⟨rfl, lexLe_refl _⟩
  · rw [if_neg h1]
    refine ⟨fun hb q hq => ?_, fun hb => ⟨by simp [(h.some hb).1], (h.some hb).2.1, fun q hq hsq => ?_⟩⟩
    · rcases List.mem_append.1 hq with hq | hq
      · exact h.none hb q hq
      · simp only [List.mem_singleton] at hq
        subst hq
        cases hv : servesB t f q with
        | false => rfl
        | true => exact absurd ⟨hv, .inl hb⟩ h1
    · rcases List.mem_append.1 hq with hq | hq
      · exact (h.some hb).2.2 q hq hsq
      · simp only [List.mem_singleton] at hq
        subst hq
        have h2 : ¬ (lengthOf t q).1 < (lengthOf t b).1 := fun h3 => h1 ⟨hsq, .inr h3⟩
        have h3 := hs b (h.some hb).1
        by_cases h4 : (lengthOf t b).1 = (lengthOf t q).1
        · exact .inr ⟨h4, h3⟩
        · exact .inl (by omega)

theorem find_best {t : Topo} {f : Flow} {b : List Int} (ht : (topoWrong t).1 = 0) (hf : (flowsWrong [f] t.n).1 = 0) (h : BestR t f (allP t f.dst 8 [f.src]) b) : findOf t f = (b, if b = [] then 9 else 0) := by
  have hc : CostsOk t := fun a b => (cost_range ht a b).1
  have hfo := flowBad_zero (flows1 ▸ hf)
  have hn := (topo_right ht).1.2.1
  have hmem : ∀ q, Good t f q → q ∈ allP t f.dst 8 [f.src] := fun q hq => by
    refine allP_complete hc 8 [f.src] q (by simp) ?_ hq.nodup hq.rng hq.link hq.dst ?_
    · have := hq.src
      cases q with
      | nil => cases this
      | cons x q => simp at this; rw [this]; exact ⟨q, rfl⟩
    · have := nodup_len hq.nodup hq.rng
      simp
      omega
  have h9 : (findOf t f).2 = 0 ∨ findOf t f = ([], 9) := by
    unfold findOf
    rw [if_neg (by simp [ht]), if_neg (by simp [hf])]
    split
    · exact .inr rfl
    · exact .inl rfl
  rcases h9 with h9 | h9
  · obtain ⟨_, _, hg, hmin⟩ := find_good h9
    have hb : b ≠ [] := fun hb => by
      have := h.none hb _ (hmem _ hg)
      rw [good_servesB ht hg] at this
      cases this
    obtain ⟨b1, b2, b3⟩ := h.some hb
    have hgb := serves_good b2
    have e1 := hmin b hgb
    have e2 := b3 _ (hmem _ hg) (good_servesB ht hg)
    rw [good_length ht hg, good_length ht hgb] at e2
    dsimp only at e2
    have : (findOf t f).1 = b := by
      rcases e1 with e1 | ⟨e1, e1'⟩
      · rcases e2 with e2 | ⟨e2, _⟩ <;> omega
      · rcases e2 with e2 | ⟨_, e2⟩
        · omega
        · exact lexLe_antisymm e1' e2
    rw [if_neg hb, ← this, ← h9]
  · have hno : ∀ q, ¬ Good t f q := find_none (by rw [h9])
    have hb : b = [] := by
      apply Classical.byContradiction
      intro hb
      exact hno b (serves_good (h.some hb).2.1)
    rw [hb, if_pos rfl, h9]
theorem all_ne {t : Topo} {to s : Int} {p : List Int} (h : p ∈ allP t to 8 [s]) : p ≠ [] := by
  obtain ⟨r, rfl⟩ := allP_pre 8 _ _ h
  simp
theorem all_before {t : Topo} {to s : Int} {j : Nat} {p q : List Int} (hp : (allP t to 8 [s])[j]? = some p) (hq : q ∈ (allP t to 8 [s]).take j) : lexLe q p = true := by
  have h := allP_sorted (t := t) (to := to) 8 [s]
  obtain ⟨hj, rfl⟩ := List.getElem?_eq_some_iff.1 hp
  obtain ⟨i, hi, rfl⟩ := List.mem_iff_getElem.1 hq
  rw [List.getElem_take]
  exact List.pairwise_iff_getElem.1 h i j (by simp at hi; omega) hj (by simp at hi; omega)
theorem BestR.start (t : Topo) (f : Flow) (L : List (List Int)) : BestR t f (L.take 0) [] := ⟨by simp, fun h => absurd rfl h⟩
end Go.St

/-
  The walk of TopoBack.
-/
set_option linter.unusedSimpArgs false
set_option linter.unusedVariables false
namespace Go.St
open Go.RowKit
theorem back_next {p : List Int} {j : Nat} (h : j < p.length) : (p.drop j).reverse = (p.drop (j + 1)).reverse ++ [p[j]] := by
  rw [List.drop_eq_getElem_cons h, List.reverse_cons]
/-- a box that holds a net -/
def SB (tb : Nat) (n : Int) (la : Option Addr) (ll lc : Nat) (w : World) : Prop :=
  w.cell? ⟨tb, 0, none⟩ = some (.int .i64 n) ∧ w.cell? ⟨tb, 1, none⟩ = some (.slice la ll lc)
theorem SB.keep {B tb : Nat} {n : Int} {la : Option Addr} {ll lc : Nat} {w w' : World} (h : SB tb n la ll lc w) (hb : Below B w w') (h1 : tb < B) : SB tb n la ll lc w' :=
  ⟨cell_at hb h1 h.1, cell_at hb h1 h.2⟩
end Go.St
namespace Go.Proofs.Ytagldmdeohenjaa
open Go.RowKit Go.St
end Go.Proofs.Ytagldmdeohenjaa
