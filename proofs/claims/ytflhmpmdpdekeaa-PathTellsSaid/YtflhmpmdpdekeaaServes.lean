/-
  The document's Serves, at a good path.
-/
import Derived.Test.YtflhmpmdpdekeaaRefL
import Derived.Test.YtflhmpmdpdekeaaPathF
set_option linter.unusedSimpArgs false
set_option linter.unusedVariables false
namespace Go.St
open Go.RowKit
theorem length_ok {t : Topo} : ∀ (r had : List Int) (n : Int), (had ++ r).Nodup → (∀ s ∈ had ++ r, 0 ≤ s ∧ s < t.n) → linked t (had ++ r) = true → had ++ r ≠ [] → (lengthFrom t had n r).2 = true
  | [], had, n, _, _, _, h => by
    cases had with
    | nil => simp at h
    | cons a q => rfl
  | s :: r, had, n, hn, hr, hl, h => by
    have hs := hr s (by simp)
    have hnm : s ∉ had := fun hm => (List.nodup_append.1 hn).2.2 _ hm _ (by simp) rfl
    unfold lengthFrom
    rw [if_neg (by simp only [not_or]; exact ⟨by omega, by omega, hnm⟩)]
    cases hh : had.getLast? with
    | none =>
      have : had = [] := List.getLast?_eq_none_iff.1 hh
      subst this
      exact length_ok r [s] n (by simpa using hn) (by simpa using hr) (by simpa using hl) (by simp)
    | some q =>
      have hne : had ≠ [] := by rintro rfl; cases hh
      have e1 : had ++ s :: r = (had ++ [s]) ++ r := by simp
      have h6 := linked_left t _ _ (e1 ▸ hl)
      rw [linked_snoc t had s hne, Bool.and_eq_true, decide_eq_true_eq] at h6
      have hq : had.getLastD 0 = q := by rw [List.getLastD_eq_getLast?, hh]; rfl
      rw [hq] at h6
      dsimp only
      rw [if_neg h6.2]
      exact length_ok r (had ++ [s]) _ (e1 ▸ hn) (by rw [← e1]; exact hr) (e1 ▸ hl) (by simp)
theorem Good.ne {t : Topo} {f : Flow} {p : List Int} (h : Good t f p) : p ≠ [] := by rintro rfl; have := h.src; cases this
theorem Good.len {t : Topo} {f : Flow} {p : List Int} (h : Good t f p) : (lengthOf t p).2 = true := length_ok p [] 0 h.nodup h.rng h.link h.ne
/-- so many of the ways are met ahead of a place -/
def metAt (f : Flow) (p : List Int) (j met : Nat) : Prop := (p.take j).filter (fun s => decide (s ∈ f.via)) = f.via.take met ∧ met ≤ f.via.length
theorem met_in {t : Topo} {f : Flow} {p : List Int} (h : Good t f p) {j met : Nat} (hj : j < p.length) (hm : metAt f p j met) (hv : p[j] ∈ f.via) : f.via[met]? = some p[j] ∧ metAt f p (j + 1) (met + 1) := by
  have h5 := h.via
  have e : p = p.take j ++ p[j] :: p.drop (j + 1) := by rw [List.getElem_cons_drop, List.take_append_drop]
  rw [e, List.filter_append, hm.1, List.filter_cons, if_pos (by simpa using hv)] at h5
  have hl2 : (f.via.take met).length = met := by rw [List.length_take]; have := hm.2; omega
  have h6 : f.via[met]? = some p[j] := by
    conv => lhs; rw [← h5]
    rw [List.getElem?_append_right (by omega), hl2]; simp
  have hlt := (List.getElem?_eq_some_iff.1 h6).1
  refine ⟨h6, ?_, by omega⟩
  rw [List.take_succ_eq_append_getElem hj, List.filter_append, hm.1, List.take_add_one, h6]
  simp [hv]
theorem met_out {f : Flow} {p : List Int} {j met : Nat} (hj : j < p.length) (hm : metAt f p j met) (hv : p[j] ∉ f.via) : metAt f p (j + 1) met := by
  refine ⟨?_, hm.2⟩
  rw [List.take_succ_eq_append_getElem hj, List.filter_append, hm.1]
  simp [hv]
theorem met_end {t : Topo} {f : Flow} {p : List Int} (h : Good t f p) {j met : Nat} (hj : ¬ j < p.length) (hm : metAt f p j met) : met = f.via.length := by
  have := hm.1
  rw [List.take_of_length_le (by omega), h.via] at this
  have := congrArg List.length this
  rw [List.length_take] at this
  have := hm.2
  omega
theorem find_bad {t : Topo} {f : Flow} (h : (findOf t f).2 ≠ 0) : (findOf t f).1 = [] := by
  unfold findOf at h ⊢
  by_cases h1 : (topoWrong t).1 = 0
  case neg => rw [if_pos h1]
  rw [if_neg (by simp [h1])] at h ⊢
  by_cases h2 : (flowsWrong [f] t.n).1 = 0
  case neg => rw [if_pos h2]
  rw [if_neg (by simp [h2])] at h ⊢
  cases hb : (onS t f 9 [f.src] 0 0 (none, 0)).1 with
  | none => rfl
  | some p => rw [hb] at h; simp at h
end Go.St
namespace Go.Proofs.Ytflhmpmdpdekeaa
open Go.RowKit Go.St

set_option maxRecDepth 100000 in
set_option maxHeartbeats 8000000 in
theorem servesGood_c (t : Topo) (f : Flow) (p : List Int) (cs ds : List Value) (ok ok' ok'' : Nat → Prop) (pa : Option Addr) (pc : Nat) (w : World) (h : topoS.rep ok w cs t) (hf : flowS.rep ok' w ds f) (hp : rowRep intS ok'' w pa pc p) (hg : St.Good t f p) :
    Calls Try.prog 15 #[.agg cs.toArray, .agg ds.toArray, .slice pa p.length pc] w fun e w' => e = .returned (.bool true) ∧ Below w.heap.size w w' := by
  have hT := h
  obtain ⟨la, lc, rfl, hn, hr⟩ := h
  obtain ⟨va, vc, na, nc, rfl, hs, hd, hv, hno⟩ := id hf
  have hlx := hp.len_le
  have hp0 : 0 < p.length := List.length_pos_iff.2 hg.ne
  obtain ⟨pb, po, rfl, _, hpb, _⟩ := hp.get (List.getElem?_eq_getElem hp0)
  have hcell : ∀ (w' : World) (hw : Below w.heap.size w w') (m : Nat) (hm : m < p.length), w'.cell? ⟨pb, po + m, none⟩ = some (.int .i64 p[m]) := by
    intro w' hw m hm
    obtain ⟨pb', po', hbo, _, _, cs', ⟨rfl, _⟩, hce⟩ := hp.get (List.getElem?_eq_getElem hm)
    obtain ⟨rfl, rfl⟩ : pb = pb' ∧ po = po' := by simpa using hbo
    have := cell_at hw hpb (hce 0 _ rfl)
    simpa only [intS, Nat.add_zero, Nat.mul_one] using this
  have HCE := Lib.hid hcell
  clear hcell
  have hlen := hg.len
  have q0 : p[0] = f.src := by
    have := hg.src
    rw [List.head?_eq_getElem?, List.getElem?_eq_getElem hp0] at this
    exact Option.some.inj this
  have q1 : p[p.length - 1]'(by omega) = f.dst := by
    have := hg.dst
    rw [List.getLast?_eq_getElem?, List.getElem?_eq_getElem (by omega)] at this
    exact Option.some.inj this
  go_enter Try.func15, Try.ntmps15
  go_wp2_with fail
  refine (refLength_c t p _ ok ok'' _ pc _ (topoS.below hT (by (repeat' (first | with_reducible exact Below.refl _ _ | with_reducible assumption | with_reducible refine Below.drew ?_ | with_reducible refine Below_drewN ?_ _ | with_reducible refine Below.alloc ?_ ?_ _ | with_reducible refine Below.setCell ?_ ?_ _ | omega | (simp; done) | (simp; omega))))) (hp.below (by (repeat' (first | with_reducible exact Below.refl _ _ | with_reducible assumption | with_reducible refine Below.drew ?_ | with_reducible refine Below_drewN ?_ _ | with_reducible refine Below.alloc ?_ ?_ _ | with_reducible refine Below.setCell ?_ ?_ _ | omega | (simp; done) | (simp; omega)))))).mono ?_
  rintro e w1 ⟨rfl, hb1⟩
  have hB1 : Below w.heap.size w w1 := Below.trans (by (repeat' (first | with_reducible exact Below.refl _ _ | with_reducible assumption | with_reducible refine Below.drew ?_ | with_reducible refine Below_drewN ?_ _ | with_reducible refine Below.alloc ?_ ?_ _ | with_reducible refine Below.setCell ?_ ?_ _ | omega | (simp; done) | (simp; omega)))) (hb1.mono (by simp; omega))
  have hF1 : blockIs w1 (w.heap.size + 1) 27 #[.int .i64 f.src, .int .i64 f.dst, .slice va f.via.length vc, .slice na f.no.length nc] := (blockIs.new (by simp)).under hb1
  obtain ⟨f1, f2⟩ := hF1.cells
  have hz1 := hF1.lt
  rw [hlen]
  clear hb1 hlen
  have e0 := HCE.out w1 hB1 0 hp0
  have e1 := HCE.out w1 hB1 (p.length - 1) (by omega)
  rw [q0, Nat.add_zero] at e0
  rw [q1] at e1
  clear q0 q1
  have k1 : IntKind.i64.wrap ((p.length : Int) - 1) = ((p.length - 1 : Nat) : Int) := by rw [IntWalk.i64_in _ (by omega)]; omega
  have k2 : (0 : Int) ≤ ((p.length - 1 : Nat) : Int) := by omega
  have k3 : ((p.length - 1 : Nat) : Int) < (p.length : Int) := by omega
  have k4 : (((p.length - 1 : Nat) : Int)).toNat = p.length - 1 := by omega
  have k5 : (0 : Int) < (p.length : Int) := by omega
  go_wp2
  go_quiet (fail)
  go_wp2
  go_loop [9, 11, 41] (fun m _ i => ∃ j met : Nat, j ≤ p.length ∧ m = .int .i64 met ∧ i = .int .i64 j ∧ Hid (metAt f p j met)) (fun _ _ i => p.length - (intOf i).toNat)
  case atStart => exact ⟨0, 0, Nat.zero_le _, rfl, rfl, by show metAt _ _ _ _; exact ⟨by simp, Nat.zero_le _⟩⟩
  case round =>
    obtain ⟨j, met, hj, rfl, rfl, hmet⟩ := hrel
    by_cases hlt : j < p.length
    case neg =>
      have HE := Lib.hid (met_end hg hlt hmet.out)
      have b1 : ¬ (j : Int) < (p.length : Int) := by omega
      have hm : ((met : Int) == (f.via.length : Int)) = true := by rw [beq_iff_eq]; have := HE.out; omega
      clear hmet
      go_wp2
      go_ret; exact ⟨rfl, by (repeat' (first | with_reducible exact Below.refl _ _ | with_reducible assumption | with_reducible refine Below.drew ?_ | with_reducible refine Below_drewN ?_ _ | with_reducible refine Below.alloc ?_ ?_ _ | with_reducible refine Below.setCell ?_ ?_ _ | omega | (simp; done) | (simp; omega)))⟩
    have e2 := HCE.out w1 hB1 j hlt
    have hsn : decide (p[j] ∈ f.no) = false := decide_eq_false (hg.no _ (List.getElem_mem hlt))
    have hcn := fun w' (hw : Below w.heap.size w w') => in_c f.no p[j] ok' na nc w' (hno.below hw)
    have hcv := fun w' (hw : Below w.heap.size w w') => in_c f.via p[j] ok' va vc w' (hv.below hw)
    rw [hsn] at hcn
    have b0 : (0 : Int) ≤ (j : Int) := by omega
    have b1 : (j : Int) < (p.length : Int) := by omega
    by_cases hvia : p[j] ∈ f.via
    · obtain ⟨m1, m2⟩ := met_in hg hlt hmet.out hvia
      obtain ⟨vb, vo, rfl, _, hvb, cs', ⟨rfl, _⟩, hce⟩ := hv.get m1
      have e3 := cell_at hB1 hvb (hce 0 _ rfl)
      simp only [intS, Nat.add_zero, Nat.mul_one] at e3
      have hml := (List.getElem?_eq_some_iff.1 m1).1
      have d0 : (0 : Int) ≤ (met : Int) := by omega
      have d1 : (met : Int) < (f.via.length : Int) := by omega
      have d2 : IntKind.i64.wrap ((met : Int) + 1) = (met : Int) + 1 := IntWalk.i64_in _ (by have := hv.len_le; omega)
      rw [decide_eq_true hvia] at hcv
      have HM := Lib.hid m2
      have HCN := Lib.hid hcn
      have HCV := Lib.hid hcv
      clear hce m1 m2 hmet hvia hsn hcn hcv
      generalize p[j] = s at *
      go_wp2_with fail
      refine (HCN.out _ (by (repeat' (first | with_reducible exact Below.refl _ _ | with_reducible assumption | with_reducible refine Below.drew ?_ | with_reducible refine Below_drewN ?_ _ | with_reducible refine Below.alloc ?_ ?_ _ | with_reducible refine Below.setCell ?_ ?_ _ | omega | (simp; done) | (simp; omega))))).mono ?_
      rintro e w2 ⟨rfl, rfl⟩
      go_wp2_with fail
      refine (HCV.out _ (by (repeat' (first | with_reducible exact Below.refl _ _ | with_reducible assumption | with_reducible refine Below.drew ?_ | with_reducible refine Below_drewN ?_ _ | with_reducible refine Below.alloc ?_ ?_ _ | with_reducible refine Below.setCell ?_ ?_ _ | omega | (simp; done) | (simp; omega))))).mono ?_
      rintro e w2 ⟨rfl, rfl⟩
      go_wp2
      go_round
      case rel => exact ⟨j + 1, met + 1, by omega, by go_num, by go_num, HM⟩
      case measure => simp [intOf]; omega
    · have HM := Lib.hid (met_out hlt hmet.out hvia)
      rw [decide_eq_false hvia] at hcv
      have HCN := Lib.hid hcn
      have HCV := Lib.hid hcv
      clear hmet hvia hsn hcn hcv
      generalize p[j] = s at *
      go_wp2_with fail
      refine (HCN.out _ (by (repeat' (first | with_reducible exact Below.refl _ _ | with_reducible assumption | with_reducible refine Below.drew ?_ | with_reducible refine Below_drewN ?_ _ | with_reducible refine Below.alloc ?_ ?_ _ | with_reducible refine Below.setCell ?_ ?_ _ | omega | (simp; done) | (simp; omega))))).mono ?_
      rintro e w2 ⟨rfl, rfl⟩
      go_wp2_with fail
      refine (HCV.out _ (by (repeat' (first | with_reducible exact Below.refl _ _ | with_reducible assumption | with_reducible refine Below.drew ?_ | with_reducible refine Below_drewN ?_ _ | with_reducible refine Below.alloc ?_ ?_ _ | with_reducible refine Below.setCell ?_ ?_ _ | omega | (simp; done) | (simp; omega))))).mono ?_
      rintro e w2 ⟨rfl, rfl⟩
      go_wp2
      go_round
      case rel => exact ⟨j + 1, met, by omega, rfl, by go_num, HM⟩
      case measure => simp [intOf]; omega

end Go.Proofs.Ytflhmpmdpdekeaa
