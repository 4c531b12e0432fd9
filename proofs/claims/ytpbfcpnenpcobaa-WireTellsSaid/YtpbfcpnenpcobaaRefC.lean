/-
  The contract of the document's Parse: of any bytes it tells the order that they are, or what is wrong.
-/
import Derived.Test.YtpbfcpnenpcobaaRefP2
set_option linter.unusedSimpArgs false
set_option linter.unusedVariables false
namespace Go.Proofs.Ytpbfcpnenpcobaa
open Go.RowKit Go.St

theorem refParse_c (l : List Int) (ok : Nat → Prop) (ax : Option Addr) (cx : Nat) (w : World) (hx : rowRep byteS ok w ax cx l) :
    Calls Try.prog 13 #[.slice ax l.length cx] w fun e w' => ∃ cs : List Value, e = .returned (.tuple #[.agg cs.toArray, .int .i64 (parseAll l).2]) ∧ orderS.rep (fun b => w.heap.size ≤ b) w' cs (parseAll l).1 ∧ Below w.heap.size w w' := by
  by_cases h7 : l.length < 7
  · refine (refp_short l.length cx ax w h7).mono fun e w' h => endsBad_is h ?_
    unfold parseAll; rw [if_pos h7]
  have hp : parseAll l = parseOf l.dropLast (l.getLastD 0) := by unfold parseAll; rw [if_neg h7]
  rw [hp]
  have hne : l ≠ [] := by rintro rfl; simp at h7
  obtain ⟨d, c, rfl⟩ : ∃ d c, l = d ++ [c] := ⟨l.dropLast, l.getLast hne, (List.dropLast_concat_getLast hne).symm⟩
  have hlast : (d ++ [c]).getLastD 0 = c := by simp [List.getLastD_eq_getLast?]
  rw [List.dropLast_concat, hlast]
  clear hp hlast hne
  obtain ⟨k0, k1, k2, k3, k4, k5, t, rfl⟩ := six (d := d) (by simp at h7; omega)
  obtain ⟨b, off, rfl, _, hbl, _⟩ := hx.get (i := 0) (x := k0) rfl
  have hc : ∀ (i : Nat) (x : Int), ((k0 :: k1 :: k2 :: k3 :: k4 :: k5 :: t) ++ [c])[i]? = some x → w.cell? ⟨b, off + i, none⟩ = some (.int .u8 x) ∧ 0 ≤ x ∧ x ≤ 255 := by
    intro i x hi
    obtain ⟨b', off', hbb, _, _, cs, hcs, hce⟩ := hx.get hi
    obtain ⟨rfl, rfl⟩ : b = b' ∧ off = off' := by simpa using hbb
    obtain ⟨rfl, h1, h2⟩ := hcs
    have := hce 0 _ rfl
    simp only [byteS, Nat.add_zero, Nat.mul_one] at this
    exact ⟨this, h1, h2⟩
  obtain ⟨c0, a0, b0⟩ := hc 0 k0 rfl
  obtain ⟨c1, a1, b1⟩ := hc 1 k1 rfl
  obtain ⟨c2, a2, b2⟩ := hc 2 k2 rfl
  obtain ⟨c3, a3, b3⟩ := hc 3 k3 rfl
  obtain ⟨c4, a4, b4⟩ := hc 4 k4 rfl
  obtain ⟨c5, a5, b5⟩ := hc 5 k5 rfl
  rw [Nat.add_zero] at c0
  have ct : ∀ i (h : i < t.length), w.cell? ⟨b, off + 6 + i, none⟩ = some (.int .u8 t[i]) ∧ 0 ≤ t[i] ∧ t[i] ≤ 255 := by
    intro i h
    have := hc (6 + i) t[i] (by
      rw [List.getElem?_append_left (by simp only [List.length_cons]; omega)]
      rw [show 6 + i = i + 1 + 1 + 1 + 1 + 1 + 1 by omega]
      simp [h])
    rwa [← Nat.add_assoc] at this
  obtain ⟨cl, _, _⟩ := hc (t.length + 6) c (by rw [List.getElem?_append_right (by simp)]; simp)
  have hlen : ((k0 :: k1 :: k2 :: k3 :: k4 :: k5 :: t) ++ [c]).length = t.length + 7 := by simp
  have hcx := hx.1
  have hrow : rowRep byteS ok w (some ⟨b, off, none⟩) cx (k0 :: k1 :: k2 :: k3 :: k4 :: k5 :: t) := by
    have := hx.take (t.length + 6)
    rwa [List.take_append_of_le_length (by simp), List.take_of_length_le (by simp)] at this
  have hl := hx.len_le
  rw [hlen] at hcx hl ⊢
  have hnum : 65536 * k1 + 256 * k2 + k3 = numOf k1 k2 k3 := by unfold numOf; omega
  have hver : 256 * k4 + k5 = verOf k4 k5 := by unfold verOf; omega
  have n0 : 0 ≤ numOf k1 k2 k3 := by unfold numOf; omega
  have n1 : numOf k1 k2 k3 ≤ 16777215 := by unfold numOf; omega
  have v0 : 0 ≤ verOf k4 k5 := by unfold verOf; omega
  have v1 : verOf k4 k5 ≤ 65535 := by unfold verOf; omega
  have hlt : t.length ≤ 9223372036854775800 := by omega
  clear hc hlen hx hl h7
  by_cases hs : sumB (k0 :: k1 :: k2 :: k3 :: k4 :: k5 :: t) = c
  case neg =>
    have hs' : (sumB (k0 :: k1 :: k2 :: k3 :: k4 :: k5 :: t) != c) = true := by rw [bne_iff_ne]; exact hs
    refine (refp_sum k0 k1 k2 k3 k4 k5 c _ _ t ok b off cx w hrow c0 c1 c2 c3 c4 c5 ct cl hcx hlt a0 b0 a1 b1 a2 b2 a3 b3 a4 b4 a5 b5 hnum hver n0 n1 v0 v1 hbl hs').mono fun e w' h => endsBad_is h ?_
    simp only [parseOf, if_neg hs]
  have hs' : (sumB (k0 :: k1 :: k2 :: k3 :: k4 :: k5 :: t) != c) = false := by rw [bne_eq_false_iff_eq]; exact hs
  have hp : parseOf (k0 :: k1 :: k2 :: k3 :: k4 :: k5 :: t) c = parseBody k0 (numOf k1 k2 k3) (verOf k4 k5) t := by
    simp only [parseOf, if_pos hs]
  rw [hp]
  clear hp hs
  generalize numOf k1 k2 k3 = num at *
  generalize verOf k4 k5 = ver at *
  unfold parseBody
  by_cases hk1 : k0 = 1
  · subst hk1
    rw [if_pos rfl]
    cases t with
    | nil =>
      exact (refp_add0 k1 k2 k3 k4 k5 c _ _ [] ok b off cx w hrow c0 c1 c2 c3 c4 c5 ct cl hcx hlt (by decide) (by decide) a1 b1 a2 b2 a3 b3 a4 b4 a5 b5 hnum hver n0 n1 v0 v1 hbl hs' rfl).mono fun e w' h => endsBad_is h rfl
    | cons n r =>
      obtain ⟨hn, hn2, hn3⟩ := ct 0 (by simp)
      rw [Nat.add_zero] at hn
      dsimp only [List.getElem_cons_zero] at hn hn2 hn3
      by_cases hr : (r.length : Int) = 2 * n
      · refine (refp_add k1 k2 k3 k4 k5 c _ _ (n :: r) ok b off cx w hrow c0 c1 c2 c3 c4 c5 ct cl hcx hlt (by decide) (by decide) a1 b1 a2 b2 a3 b3 a4 b4 a5 b5 hnum hver n0 n1 v0 v1 hbl hs' (by simp) n hn hn2 hn3 (by rw [bne_eq_false_iff_eq, List.length_cons]; omega)).mono fun e w' h => endsGood_is h ?_
        dsimp only
        rw [if_pos hr, pairsTo_eq hr]
      · refine (refp_addbad k1 k2 k3 k4 k5 c _ _ (n :: r) ok b off cx w hrow c0 c1 c2 c3 c4 c5 ct cl hcx hlt (by decide) (by decide) a1 b1 a2 b2 a3 b3 a4 b4 a5 b5 hnum hver n0 n1 v0 v1 hbl hs' (by simp) n hn hn2 hn3 (by rw [bne_iff_ne, List.length_cons]; omega)).mono fun e w' h => endsBad_is h ?_
        dsimp only
        rw [if_neg hr]
  rw [if_neg hk1]
  by_cases hk2 : k0 = 2
  · subst hk2
    rw [if_pos rfl]
    cases t with
    | nil =>
      exact (refp_stamp0 k1 k2 k3 k4 k5 c _ _ [] ok b off cx w hrow c0 c1 c2 c3 c4 c5 ct cl hcx hlt (by decide) (by decide) a1 b1 a2 b2 a3 b3 a4 b4 a5 b5 hnum hver n0 n1 v0 v1 hbl hs' rfl).mono fun e w' h => endsBad_is h rfl
    | cons n r =>
      obtain ⟨hn, hn2, hn3⟩ := ct 0 (by simp)
      rw [Nat.add_zero] at hn
      dsimp only [List.getElem_cons_zero] at hn hn2 hn3
      by_cases hr : (r.length : Int) = n
      · refine (refp_stamp k1 k2 k3 k4 k5 c _ _ (n :: r) ok b off cx w hrow c0 c1 c2 c3 c4 c5 ct cl hcx hlt (by decide) (by decide) a1 b1 a2 b2 a3 b3 a4 b4 a5 b5 hnum hver n0 n1 v0 v1 hbl hs' (by simp) n hn hn2 hn3 (by rw [bne_eq_false_iff_eq, List.length_cons]; omega)).mono fun e w' h => endsGood_is h ?_
        dsimp only
        rw [if_pos hr, flowsTo_eq hr]
      · refine (refp_stampbad k1 k2 k3 k4 k5 c _ _ (n :: r) ok b off cx w hrow c0 c1 c2 c3 c4 c5 ct cl hcx hlt (by decide) (by decide) a1 b1 a2 b2 a3 b3 a4 b4 a5 b5 hnum hver n0 n1 v0 v1 hbl hs' (by simp) n hn hn2 hn3 (by rw [bne_iff_ne, List.length_cons]; omega)).mono fun e w' h => endsBad_is h ?_
        dsimp only
        rw [if_neg hr]
  rw [if_neg hk2]
  by_cases ht : t = []
  · rw [if_pos ht]
    exact (refp_none k0 k1 k2 k3 k4 k5 c _ _ t ok b off cx w hrow c0 c1 c2 c3 c4 c5 ct cl hcx hlt a0 b0 a1 b1 a2 b2 a3 b3 a4 b4 a5 b5 hnum hver n0 n1 v0 v1 hbl hs' hk1 hk2 (by rw [ht]; rfl)).mono fun e w' h => endsGood_is h rfl
  · rw [if_neg ht]
    exact (refp_nonebad k0 k1 k2 k3 k4 k5 c _ _ t ok b off cx w hrow c0 c1 c2 c3 c4 c5 ct cl hcx hlt a0 b0 a1 b1 a2 b2 a3 b3 a4 b4 a5 b5 hnum hver n0 n1 v0 v1 hbl hs' hk1 hk2 (List.length_pos_iff.2 ht)).mono fun e w' h => endsBad_is h rfl

end Go.Proofs.Ytpbfcpnenpcobaa
