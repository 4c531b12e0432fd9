/-
  The contract of the document's Serves.
-/
import Derived.Test.YtflhmpmdpdekeaaServeS
set_option linter.unusedSimpArgs false
set_option linter.unusedVariables false
namespace Go.St
open Go.RowKit
/-- the ways that are met lie behind -/
def metIn (f : Flow) (p : List Int) (j met : Nat) : Prop := ∀ i, i < met → ∃ x, f.via[i]? = some x ∧ x ∈ p.take j
theorem metIn.step {f : Flow} {p : List Int} {j met : Nat} (hj : j < p.length) (h : metIn f p j met) : metIn f p (j + 1) met := fun i hi => by
  obtain ⟨x, h1, h2⟩ := h i hi
  exact ⟨x, h1, by rw [List.take_succ_eq_append_getElem hj]; exact List.mem_append_left _ h2⟩
theorem metIn.more {f : Flow} {p : List Int} {j met : Nat} (hj : j < p.length) (h : metIn f p j met) (hv : f.via[met]? = some p[j]) : metIn f p (j + 1) (met + 1) := fun i hi => by
  by_cases e : i = met
  · subst e
    exact ⟨_, hv, by rw [List.take_succ_eq_append_getElem hj]; exact List.mem_append_right _ (List.mem_singleton.2 rfl)⟩
  · exact h.step hj i (by omega)
theorem metIn.lt {f : Flow} {p : List Int} {j met : Nat} (hn : p.Nodup) (hj : j < p.length) (h : metIn f p j met) (hv : p[j] ∈ f.via) : met < f.via.length := by
  obtain ⟨i, hi, he⟩ := List.getElem_of_mem hv
  by_cases hlt : i < met
  · exfalso
    obtain ⟨x, h1, h2⟩ := h i hlt
    rw [List.getElem?_eq_getElem hi, he] at h1
    have hx := Option.some.inj h1
    rw [← hx] at h2
    obtain ⟨k, hk, hke⟩ := List.mem_take_iff_getElem.1 h2
    have := nodup_idx hn (by omega) hj hke
    omega
  · omega
theorem sv_no {f : Flow} {p : List Int} {j met : Nat} {b : Bool} (hj : j < p.length) (h : b = servesFrom f met (p.drop j)) (h1 : p[j] ∈ f.no) : b = false := by
  rw [h, List.drop_eq_getElem_cons hj, servesFrom, if_pos h1]
theorem sv_bad {f : Flow} {p : List Int} {j met : Nat} {b : Bool} (hj : j < p.length) (h : b = servesFrom f met (p.drop j)) (h1 : p[j] ∉ f.no) (h2 : p[j] ∈ f.via) (h3 : f.via[met]? ≠ some p[j]) : b = false := by
  rw [h, List.drop_eq_getElem_cons hj, servesFrom, if_neg h1, if_pos h2, if_neg h3]
theorem sv_in {f : Flow} {p : List Int} {j met : Nat} {b : Bool} (hj : j < p.length) (h : b = servesFrom f met (p.drop j)) (h1 : p[j] ∉ f.no) (h2 : p[j] ∈ f.via) (h3 : f.via[met]? = some p[j]) : b = servesFrom f (met + 1) (p.drop (j + 1)) := by
  rw [h, List.drop_eq_getElem_cons hj, servesFrom, if_neg h1, if_pos h2, if_pos h3]
theorem sv_out {f : Flow} {p : List Int} {j met : Nat} {b : Bool} (hj : j < p.length) (h : b = servesFrom f met (p.drop j)) (h1 : p[j] ∉ f.no) (h2 : p[j] ∉ f.via) : b = servesFrom f met (p.drop (j + 1)) := by
  rw [h, List.drop_eq_getElem_cons hj, servesFrom, if_neg h1, if_neg h2]
theorem sv_end {f : Flow} {p : List Int} {j met : Nat} {b : Bool} (hj : ¬ j < p.length) (h : b = servesFrom f met (p.drop j)) : b = decide (met = f.via.length) := by
  rw [h, List.drop_of_length_le (by omega)]; rfl
theorem length_nil (t : Topo) : (lengthOf t []).2 = false := rfl
end Go.St
namespace Go.Proofs.Ytflhmpmdpdekeaa
open Go.RowKit Go.St

set_option maxRecDepth 100000 in
set_option maxHeartbeats 8000000 in
theorem serves_c (t : Topo) (f : Flow) (p : List Int) (cs ds : List Value) (ok ok' ok'' : Nat → Prop) (pa : Option Addr) (pc : Nat) (w : World) (h : topoS.rep ok w cs t) (hf : flowS.rep ok' w ds f) (hp : rowRep intS ok'' w pa pc p) :
    Calls Try.prog 15 #[.agg cs.toArray, .agg ds.toArray, .slice pa p.length pc] w fun e w' => e = .returned (.bool (servesB t f p)) ∧ Below w.heap.size w w' := by
  have hT := h
  obtain ⟨la, lc, rfl, hn, hr⟩ := h
  obtain ⟨va, vc, na, nc, rfl, hs, hd, hv, hno⟩ := id hf
  have hlx := hp.len_le
  cases hlen : (lengthOf t p).2
  case false =>
    have hS : Hid (servesB t f p = false) := by show _ = _; unfold servesB; rw [hlen]; rfl
    go_enter Try.func15, Try.ntmps15
    go_wp2_with fail
    refine (refLength_c t p _ ok ok'' _ pc _ (topoS.below hT (by (repeat' (first | with_reducible exact Below.refl _ _ | with_reducible assumption | with_reducible refine Below.drew ?_ | with_reducible refine Below_drewN ?_ _ | with_reducible refine Below.alloc ?_ ?_ _ | with_reducible refine Below.setCell ?_ ?_ _ | omega | (simp; done) | (simp; omega))))) (hp.below (by (repeat' (first | with_reducible exact Below.refl _ _ | with_reducible assumption | with_reducible refine Below.drew ?_ | with_reducible refine Below_drewN ?_ _ | with_reducible refine Below.alloc ?_ ?_ _ | with_reducible refine Below.setCell ?_ ?_ _ | omega | (simp; done) | (simp; omega)))))).mono ?_
    rintro e w1 ⟨rfl, hb1⟩
    have hB1 : Below w.heap.size w w1 := Below.trans (by (repeat' (first | with_reducible exact Below.refl _ _ | with_reducible assumption | with_reducible refine Below.drew ?_ | with_reducible refine Below_drewN ?_ _ | with_reducible refine Below.alloc ?_ ?_ _ | with_reducible refine Below.setCell ?_ ?_ _ | omega | (simp; done) | (simp; omega)))) (hb1.mono (by simp; omega))
    have hF1 : blockIs w1 (w.heap.size + 1) 27 #[.int .i64 f.src, .int .i64 f.dst, .slice va f.via.length vc, .slice na f.no.length nc] := (blockIs.new (by simp)).under hb1
    obtain ⟨f1, f2⟩ := hF1.cells
    have hz1 := hF1.lt
    rw [hlen]
    clear hb1
    go_wp2
    go_quiet (fail)
    go_wp2
    go_ret; exact ⟨ret_bool hS.out.symm, by (repeat' (first | with_reducible exact Below.refl _ _ | with_reducible assumption | with_reducible refine Below.drew ?_ | with_reducible refine Below_drewN ?_ _ | with_reducible refine Below.alloc ?_ ?_ _ | with_reducible refine Below.setCell ?_ ?_ _ | omega | (simp; done) | (simp; omega)))⟩
  have hpne : p ≠ [] := by rintro rfl; rw [length_nil] at hlen; cases hlen
  have hp0 : 0 < p.length := List.length_pos_iff.2 hpne
  obtain ⟨hnd, _, _⟩ := length_nd hlen
  obtain ⟨pb, po, rfl, _, hpb, _⟩ := hp.get (List.getElem?_eq_getElem hp0)
  have hcell : ∀ (w' : World) (hw : Below w.heap.size w w') (m : Nat) (hm : m < p.length), w'.cell? ⟨pb, po + m, none⟩ = some (.int .i64 p[m]) := by
    intro w' hw m hm
    obtain ⟨pb', po', hbo, _, _, cs', ⟨rfl, _⟩, hce⟩ := hp.get (List.getElem?_eq_getElem hm)
    obtain ⟨rfl, rfl⟩ : pb = pb' ∧ po = po' := by simpa using hbo
    have := cell_at hw hpb (hce 0 _ rfl)
    simpa only [intS, Nat.add_zero, Nat.mul_one] using this
  have HCE := Lib.hid hcell
  clear hcell
  have hS : Hid (servesB t f p = (decide (p.head? = some f.src) && (decide (p.getLast? = some f.dst) && servesFrom f 0 p))) := by show _ = _; unfold servesB; rw [hlen]; rfl
  have q0 : p.head? = some p[0] := by rw [List.head?_eq_getElem?, List.getElem?_eq_getElem hp0]
  have q1 : p.getLast? = some (p[p.length - 1]'(by omega)) := by rw [List.getLast?_eq_getElem?, List.getElem?_eq_getElem (by omega)]
  have hS1 : Hid (p[0] ≠ f.src → servesB t f p = false) := fun h => by rw [hS.out, q0]; simp [h]
  have hS2 : Hid (p[0] = f.src → p[p.length - 1]'(by omega) ≠ f.dst → servesB t f p = false) := fun h1 h2 => by rw [hS.out, q1]; simp [h2]
  have hS3 : Hid (p[0] = f.src → p[p.length - 1]'(by omega) = f.dst → servesB t f p = servesFrom f 0 (p.drop 0)) := fun h1 h2 => by rw [hS.out, q0, q1, h1, h2]; simp
  clear hS q0 q1
  generalize servesB t f p = bb at *
  go_enter Try.func15, Try.ntmps15
  go_wp2_with fail
  refine (refLength_c t p _ ok ok'' _ pc _ (topoS.below hT (by (repeat' (first | with_reducible exact Below.refl _ _ | with_reducible assumption | with_reducible refine Below.drew ?_ | with_reducible refine Below_drewN ?_ _ | with_reducible refine Below.alloc ?_ ?_ _ | with_reducible refine Below.setCell ?_ ?_ _ | omega | (simp; done) | (simp; omega))))) (hp.below (by (repeat' (first | with_reducible exact Below.refl _ _ | with_reducible assumption | with_reducible refine Below.drew ?_ | with_reducible refine Below_drewN ?_ _ | with_reducible refine Below.alloc ?_ ?_ _ | with_reducible refine Below.setCell ?_ ?_ _ | omega | (simp; done) | (simp; omega)))))).mono ?_
  rintro e w1 ⟨rfl, hb1⟩
  have hB1 : Below w.heap.size w w1 := Below.trans (by (repeat' (first | with_reducible exact Below.refl _ _ | with_reducible assumption | with_reducible refine Below.drew ?_ | with_reducible refine Below_drewN ?_ _ | with_reducible refine Below.alloc ?_ ?_ _ | with_reducible refine Below.setCell ?_ ?_ _ | omega | (simp; done) | (simp; omega)))) (hb1.mono (by simp; omega))
  have hF1 : blockIs w1 (w.heap.size + 1) 27 #[.int .i64 f.src, .int .i64 f.dst, .slice va f.via.length vc, .slice na f.no.length nc] := (blockIs.new (by simp)).under hb1
  obtain ⟨f1, f2⟩ := hF1.cells
  have hz1 := hF1.lt
  rw [hlen]
  clear hb1 hlen
  have e0 := HCE.out w1 hB1 0 hp0
  have e1 := HCE.out w1 hB1 (p.length - 1) (by omega)
  rw [Nat.add_zero] at e0
  have k1 : IntKind.i64.wrap ((p.length : Int) - 1) = ((p.length - 1 : Nat) : Int) := by rw [IntWalk.i64_in _ (by omega)]; omega
  have k2 : (0 : Int) ≤ ((p.length - 1 : Nat) : Int) := by omega
  have k3 : ((p.length - 1 : Nat) : Int) < (p.length : Int) := by omega
  have k4 : (((p.length - 1 : Nat) : Int)).toNat = p.length - 1 := by omega
  have k5 : (0 : Int) < (p.length : Int) := by omega
  by_cases c0 : p[0] = f.src
  case neg =>
    have HH := Lib.hid (hS1.out c0)
    have c0' : (p[0] != f.src) = true := by rw [bne_iff_ne]; exact c0
    clear hS1 hS2 hS3 c0 HCE
    generalize p[0] = x0 at *
    go_wp2
    go_quiet (fail)
    go_wp2
    go_ret; exact ⟨ret_bool HH.out.symm, by (repeat' (first | with_reducible exact Below.refl _ _ | with_reducible assumption | with_reducible refine Below.drew ?_ | with_reducible refine Below_drewN ?_ _ | with_reducible refine Below.alloc ?_ ?_ _ | with_reducible refine Below.setCell ?_ ?_ _ | omega | (simp; done) | (simp; omega)))⟩
  by_cases c1 : p[p.length - 1]'(by omega) = f.dst
  case neg =>
    have HH := Lib.hid (hS2.out c0 c1)
    have c1' : (p[p.length - 1]'(by omega) != f.dst) = true := by rw [bne_iff_ne]; exact c1
    rw [c0] at e0
    clear hS1 hS2 hS3 c1 HCE c0
    generalize p[p.length - 1]'(by omega) = x1 at *
    go_wp2
    go_quiet (fail)
    go_wp2
    go_ret; exact ⟨ret_bool HH.out.symm, by (repeat' (first | with_reducible exact Below.refl _ _ | with_reducible assumption | with_reducible refine Below.drew ?_ | with_reducible refine Below_drewN ?_ _ | with_reducible refine Below.alloc ?_ ?_ _ | with_reducible refine Below.setCell ?_ ?_ _ | omega | (simp; done) | (simp; omega)))⟩
  have hst := Lib.hid (hS3.out c0 c1)
  rw [c0] at e0
  rw [c1] at e1
  clear hS1 hS2 hS3 c0 c1
  go_wp2
  go_quiet (fail)
  go_wp2
  go_loop [9, 11, 41] (fun m _ i => ∃ j met : Nat, j ≤ p.length ∧ met ≤ j ∧ m = .int .i64 met ∧ i = .int .i64 j ∧ Hid (bb = servesFrom f met (p.drop j)) ∧ Hid (metIn f p j met)) (fun _ _ i => p.length - (intOf i).toNat)
  case atStart => exact ⟨0, 0, Nat.zero_le _, Nat.le_refl _, rfl, rfl, hst, by show metIn _ _ _ _; intro i hi; omega⟩
  case round =>
    obtain ⟨j, met, hj, hmj, rfl, rfl, hall, hmet⟩ := hrel
    by_cases hlt : j < p.length
    case neg =>
      have HE := Lib.hid (sv_end hlt hall.out)
      have b1 : ¬ (j : Int) < (p.length : Int) := by omega
      clear hmet hall
      by_cases hm : met = f.via.length
      · have hm' : ((met : Int) == (f.via.length : Int)) = true := by rw [beq_iff_eq]; omega
        have HM : Hid (bb = true) := by show _ = _; rw [HE.out]; exact decide_eq_true hm
        clear hm HE
        go_wp2
        go_ret; exact ⟨ret_bool HM.out.symm, by (repeat' (first | with_reducible exact Below.refl _ _ | with_reducible assumption | with_reducible refine Below.drew ?_ | with_reducible refine Below_drewN ?_ _ | with_reducible refine Below.alloc ?_ ?_ _ | with_reducible refine Below.setCell ?_ ?_ _ | omega | (simp; done) | (simp; omega)))⟩
      · have hm' : ((met : Int) == (f.via.length : Int)) = false := by rw [beq_eq_false_iff_ne]; omega
        have HM : Hid (bb = false) := by show _ = _; rw [HE.out]; exact decide_eq_false hm
        clear hm HE
        go_wp2
        go_ret; exact ⟨ret_bool HM.out.symm, by (repeat' (first | with_reducible exact Below.refl _ _ | with_reducible assumption | with_reducible refine Below.drew ?_ | with_reducible refine Below_drewN ?_ _ | with_reducible refine Below.alloc ?_ ?_ _ | with_reducible refine Below.setCell ?_ ?_ _ | omega | (simp; done) | (simp; omega)))⟩
    have e2 := HCE.out w1 hB1 j hlt
    have hcn := fun w' (hw : Below w.heap.size w w') => in_c f.no p[j] ok' na nc w' (hno.below hw)
    have hcv := fun w' (hw : Below w.heap.size w w') => in_c f.via p[j] ok' va vc w' (hv.below hw)
    have b0 : (0 : Int) ≤ (j : Int) := by omega
    have b1 : (j : Int) < (p.length : Int) := by omega
    by_cases hno' : p[j] ∈ f.no
    · have HH := Lib.hid (sv_no hlt hall.out hno')
      rw [decide_eq_true hno'] at hcn
      have HCN := Lib.hid hcn
      clear hall hmet hno' hcn hcv
      generalize p[j] = s at *
      go_wp2_with fail
      refine (HCN.out _ (by (repeat' (first | with_reducible exact Below.refl _ _ | with_reducible assumption | with_reducible refine Below.drew ?_ | with_reducible refine Below_drewN ?_ _ | with_reducible refine Below.alloc ?_ ?_ _ | with_reducible refine Below.setCell ?_ ?_ _ | omega | (simp; done) | (simp; omega))))).mono ?_
      rintro e w2 ⟨rfl, rfl⟩
      go_wp2
      go_ret; exact ⟨ret_bool HH.out.symm, by (repeat' (first | with_reducible exact Below.refl _ _ | with_reducible assumption | with_reducible refine Below.drew ?_ | with_reducible refine Below_drewN ?_ _ | with_reducible refine Below.alloc ?_ ?_ _ | with_reducible refine Below.setCell ?_ ?_ _ | omega | (simp; done) | (simp; omega)))⟩
    rw [decide_eq_false hno'] at hcn
    have HCN := Lib.hid hcn
    clear hcn
    by_cases hvia : p[j] ∈ f.via
    · have hml := hmet.out.lt hnd hlt hvia
      obtain ⟨vb, vo, rfl, _, hvb, cs', ⟨rfl, _⟩, hce⟩ := hv.get (List.getElem?_eq_getElem hml)
      have e3 := cell_at hB1 hvb (hce 0 _ rfl)
      simp only [intS, Nat.add_zero, Nat.mul_one] at e3
      have d0 : (0 : Int) ≤ (met : Int) := by omega
      have d1 : (met : Int) < (f.via.length : Int) := by omega
      have d2 : IntKind.i64.wrap ((met : Int) + 1) = (met : Int) + 1 := IntWalk.i64_in _ (by omega)
      rw [decide_eq_true hvia] at hcv
      have HCV := Lib.hid hcv
      clear hce hcv
      by_cases hvs : f.via[met] = p[j]
      · have hsome : f.via[met]? = some p[j] := by rw [List.getElem?_eq_getElem hml, hvs]
        have HM := Lib.hid (hmet.out.more hlt hsome)
        have HA := Lib.hid (sv_in hlt hall.out hno' hvia hsome)
        rw [hvs] at e3
        clear hvs hsome hmet hall hno' hvia
        generalize p[j] = s at *
        go_wp2_with fail
        refine (HCN.out _ (by (repeat' (first | with_reducible exact Below.refl _ _ | with_reducible assumption | with_reducible refine Below.drew ?_ | with_reducible refine Below_drewN ?_ _ | with_reducible refine Below.alloc ?_ ?_ _ | with_reducible refine Below.setCell ?_ ?_ _ | omega | (simp; done) | (simp; omega))))).mono ?_
        rintro e w2 ⟨rfl, rfl⟩
        go_wp2_with fail
        refine (HCV.out _ (by (repeat' (first | with_reducible exact Below.refl _ _ | with_reducible assumption | with_reducible refine Below.drew ?_ | with_reducible refine Below_drewN ?_ _ | with_reducible refine Below.alloc ?_ ?_ _ | with_reducible refine Below.setCell ?_ ?_ _ | omega | (simp; done) | (simp; omega))))).mono ?_
        rintro e w2 ⟨rfl, rfl⟩
        go_wp2
        go_round
        case rel => exact ⟨j + 1, met + 1, by omega, by omega, by go_num, by go_num, HA, HM⟩
        case measure => simp [intOf]; omega
      · have hsome : f.via[met]? ≠ some p[j] := by rw [List.getElem?_eq_getElem hml]; intro h; exact hvs (Option.some.inj h)
        have HH := Lib.hid (sv_bad hlt hall.out hno' hvia hsome)
        have hvs' : (f.via[met] != p[j]) = true := by rw [bne_iff_ne]; exact hvs
        clear hvs hsome hmet hall hno' hvia
        generalize p[j] = s at *
        generalize f.via[met] = v at *
        go_wp2_with fail
        refine (HCN.out _ (by (repeat' (first | with_reducible exact Below.refl _ _ | with_reducible assumption | with_reducible refine Below.drew ?_ | with_reducible refine Below_drewN ?_ _ | with_reducible refine Below.alloc ?_ ?_ _ | with_reducible refine Below.setCell ?_ ?_ _ | omega | (simp; done) | (simp; omega))))).mono ?_
        rintro e w2 ⟨rfl, rfl⟩
        go_wp2_with fail
        refine (HCV.out _ (by (repeat' (first | with_reducible exact Below.refl _ _ | with_reducible assumption | with_reducible refine Below.drew ?_ | with_reducible refine Below_drewN ?_ _ | with_reducible refine Below.alloc ?_ ?_ _ | with_reducible refine Below.setCell ?_ ?_ _ | omega | (simp; done) | (simp; omega))))).mono ?_
        rintro e w2 ⟨rfl, rfl⟩
        go_wp2
        go_ret; exact ⟨ret_bool HH.out.symm, by (repeat' (first | with_reducible exact Below.refl _ _ | with_reducible assumption | with_reducible refine Below.drew ?_ | with_reducible refine Below_drewN ?_ _ | with_reducible refine Below.alloc ?_ ?_ _ | with_reducible refine Below.setCell ?_ ?_ _ | omega | (simp; done) | (simp; omega)))⟩
    · have HM := Lib.hid (hmet.out.step hlt)
      have HA := Lib.hid (sv_out hlt hall.out hno' hvia)
      rw [decide_eq_false hvia] at hcv
      have HCV := Lib.hid hcv
      clear hmet hall hvia hno' hcv
      generalize p[j] = s at *
      go_wp2_with fail
      refine (HCN.out _ (by (repeat' (first | with_reducible exact Below.refl _ _ | with_reducible assumption | with_reducible refine Below.drew ?_ | with_reducible refine Below_drewN ?_ _ | with_reducible refine Below.alloc ?_ ?_ _ | with_reducible refine Below.setCell ?_ ?_ _ | omega | (simp; done) | (simp; omega))))).mono ?_
      rintro e w2 ⟨rfl, rfl⟩
      go_wp2_with fail
      refine (HCV.out _ (by (repeat' (first | with_reducible exact Below.refl _ _ | with_reducible assumption | with_reducible refine Below.drew ?_ | with_reducible refine Below_drewN ?_ _ | with_reducible refine Below.alloc ?_ ?_ _ | with_reducible refine Below.setCell ?_ ?_ _ | omega | (simp; done) | (simp; omega))))).mono ?_
      rintro e w2 ⟨rfl, rfl⟩
      go_wp2
      go_round
      case rel => exact ⟨j + 1, met, by omega, by omega, rfl, by go_num, HA, HM⟩
      case measure => simp [intOf]; omega

end Go.Proofs.Ytflhmpmdpdekeaa
