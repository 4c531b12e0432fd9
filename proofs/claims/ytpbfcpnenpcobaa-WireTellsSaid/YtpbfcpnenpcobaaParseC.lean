/-
  Parse's contract: of any bytes it tells the order that they are, or what is wrong.
-/
import Derived.Test.YtpbfcpnenpcobaaParseW
set_option linter.unusedSimpArgs false
set_option linter.unusedVariables false
namespace Go.St

theorem or_nat (x y : Int) (i a b : Nat) (hx : x = ((2 ^ i * a : Nat) : Int)) (hy : y = (b : Int)) (hb : b < 2 ^ i) (hl : 2 ^ i * a + b < 2 ^ 63) : bits BinOp.or IntKind.i64 x y = x + y := by
  subst hx hy
  have h1 : 2 ^ i * a < 2 ^ 64 := by omega
  have h2 : b < 2 ^ 64 := by omega
  have e : (BitVec.ofInt 64 ((2 ^ i * a : Nat) : Int) ||| BitVec.ofInt 64 (b : Int)).toNat = 2 ^ i * a + b := by
    rw [BitVec.toNat_or, BitVec.ofInt_natCast, BitVec.ofInt_natCast, BitVec.toNat_ofNat, BitVec.toNat_ofNat, Nat.mod_eq_of_lt h1, Nat.mod_eq_of_lt h2, Nat.two_pow_add_eq_or_of_lt hb]
  show IntKind.i64.wrap ((BitVec.ofInt 64 ((2 ^ i * a : Nat) : Int) ||| BitVec.ofInt 64 (b : Int)).toNat : Int) = _
  rw [e, IntWalk.i64_in _ (by omega)]
  omega

theorem or_num (a b c : Int) (a0 : 0 ≤ a) (a1 : a ≤ 255) (b0 : 0 ≤ b) (b1 : b ≤ 255) (c0 : 0 ≤ c) (c1 : c ≤ 255) : bits BinOp.or IntKind.i64 (bits BinOp.or IntKind.i64 (a * 65536) (b * 256)) c = numOf a b c := by
  obtain ⟨a, rfl⟩ := Int.eq_ofNat_of_zero_le a0
  obtain ⟨b, rfl⟩ := Int.eq_ofNat_of_zero_le b0
  obtain ⟨c, rfl⟩ := Int.eq_ofNat_of_zero_le c0
  have h1 := or_nat ((a : Int) * 65536) ((b : Int) * 256) 16 a (b * 256) (by omega) (by omega) (by omega) (by omega)
  rw [h1, or_nat _ _ 8 (a * 256 + b) c (by omega) (by omega) (by omega) (by omega)]
  unfold numOf
  omega

theorem or_ver (a c : Int) (a0 : 0 ≤ a) (a1 : a ≤ 255) (c0 : 0 ≤ c) (c1 : c ≤ 255) : bits BinOp.or IntKind.i64 (a * 256) c = verOf a c := by
  obtain ⟨a, rfl⟩ := Int.eq_ofNat_of_zero_le a0
  obtain ⟨c, rfl⟩ := Int.eq_ofNat_of_zero_le c0
  rw [or_nat _ _ 8 a c (by omega) (by omega) (by omega) (by omega)]
  rfl

theorem pairs_to (ver : Int) : ∀ (m : Nat) (r : List Int), r.length = 2 * m → (List.range m).map (fun i => (⟨ver, r.getD (2 * i) 0, r.getD (2 * i + 1) 0⟩ : Rule)) = pairs ver r := by
  intro m
  induction m with
  | zero => intro r h; obtain rfl := List.eq_nil_of_length_eq_zero (by omega : r.length = 0); rfl
  | succ m ih =>
    intro r h
    match r, h with
    | [], h => simp at h
    | [_], h => simp at h; omega
    | a :: b :: r, h =>
      rw [List.range_succ_eq_map, List.map_cons, List.map_map]
      simp only [pairs]
      rw [← ih r (by simp at h; omega)]
      rw [List.cons.injEq]
      refine ⟨by simp, List.map_congr_left fun i _ => ?_⟩
      have e1 : 2 * (i + 1) = 2 * i + 1 + 1 := by omega
      simp [Function.comp, e1, List.getD_cons_succ]

end Go.St
namespace Go.Proofs.Ytpbfcpnenpcobaa
open Go.RowKit Go.St

theorem pairsTo_eq {ver n : Int} {r : List Int} (h : (r.length : Int) = 2 * n) : pairsTo ver (n :: r) n.toNat = pairs ver r := by
  rw [← pairs_to ver n.toNat r (by omega)]
  unfold pairsTo
  refine List.map_congr_left fun i _ => ?_
  have e1 : 1 + 2 * i = 2 * i + 1 := by omega
  simp [e1, List.getD_cons_succ]

theorem flowsTo_eq {n : Int} {r : List Int} (h : (r.length : Int) = n) : flowsTo (n :: r) n.toNat = r := by
  have hn : n.toNat = r.length := by omega
  rw [hn]
  unfold flowsTo
  refine List.ext_getElem (by simp) fun i h1 h2 => ?_
  have e1 : 1 + i = i + 1 := by omega
  have hi : i < r.length := by simpa using h1
  simp [e1, List.getD_cons_succ, hi]

theorem six {d : List Int} (h : 6 ≤ d.length) : ∃ k0 k1 k2 k3 k4 k5 t, d = k0 :: k1 :: k2 :: k3 :: k4 :: k5 :: t := by
  match d, h with
  | k0 :: k1 :: k2 :: k3 :: k4 :: k5 :: t, _ => exact ⟨k0, k1, k2, k3, k4, k5, t, rfl⟩

theorem endsBad_is {err : Int} {w : World} {e : Ending} {w' : World} {p : Order × Int} (h : endsBad err w e w') (hp : p = (zeroO, err)) :
    ∃ cs : List Value, e = .returned (.tuple #[.agg cs.toArray, .int .i64 p.2]) ∧ orderS.rep (fun b => w.heap.size ≤ b) w' cs p.1 ∧ Below w.heap.size w w' := by
  subst hp
  exact ⟨_, h.1, zeroO_rep _ _, h.2⟩

theorem endsGood_is {o : Order} {w : World} {e : Ending} {w' : World} {p : Order × Int} (h : endsGood o w e w') (hp : p = finish o) :
    ∃ cs : List Value, e = .returned (.tuple #[.agg cs.toArray, .int .i64 p.2]) ∧ orderS.rep (fun b => w.heap.size ≤ b) w' cs p.1 ∧ Below w.heap.size w w' := by
  subst hp
  exact h

theorem parse_c (l : List Int) (ok : Nat → Prop) (ax : Option Addr) (cx : Nat) (w : World) (hx : rowRep byteS ok w ax cx l) :
    Calls Try.prog 12 #[.slice ax l.length cx] w fun e w' => ∃ cs : List Value, e = .returned (.tuple #[.agg cs.toArray, .int .i64 (parseAll l).2]) ∧ orderS.rep (fun b => w.heap.size ≤ b) w' cs (parseAll l).1 ∧ Below w.heap.size w w' := by
  by_cases h7 : l.length < 7
  · refine (parse_short l.length cx ax w h7).mono fun e w' h => endsBad_is h ?_
    unfold parseAll; rw [if_pos h7]
  have hp : parseAll l = parseOf l.dropLast (l.getLastD 0) := by unfold parseAll; rw [if_neg h7]
  rw [hp]
  have hne : l ≠ [] := by rintro rfl; simp at h7
  obtain ⟨d, c, rfl⟩ : ∃ d c, l = d ++ [c] := ⟨l.dropLast, l.getLast hne, (List.dropLast_concat_getLast hne).symm⟩
  have hlast : (d ++ [c]).getLastD 0 = c := by simp [List.getLastD_eq_getLast?]
  rw [List.dropLast_concat, hlast]
  clear hp hlast hne
  obtain ⟨k0, k1, k2, k3, k4, k5, t, rfl⟩ := six (d := d) (by simp at h7; omega)
  obtain ⟨b, off, rfl, _, hbl, _⟩ := hx.get (i := 0) (x := k0) rfl
  have hc : ∀ (i : Nat) (x : Int), ((k0 :: k1 :: k2 :: k3 :: k4 :: k5 :: t) ++ [c])[i]? = some x → w.cell? ⟨b, off + i, none⟩ = some (.int .u8 x) ∧ 0 ≤ x ∧ x ≤ 255 := by
    intro i x hi
    obtain ⟨b', off', hbb, _, _, cs, hcs, hce⟩ := hx.get hi
    obtain ⟨rfl, rfl⟩ : b = b' ∧ off = off' := by simpa using hbb
    obtain ⟨rfl, h1, h2⟩ := hcs
    have := hce 0 _ rfl
    simp only [byteS, Nat.add_zero, Nat.mul_one] at this
    exact ⟨this, h1, h2⟩
  obtain ⟨c0, a0, b0⟩ := hc 0 k0 rfl
  obtain ⟨c1, a1, b1⟩ := hc 1 k1 rfl
  obtain ⟨c2, a2, b2⟩ := hc 2 k2 rfl
  obtain ⟨c3, a3, b3⟩ := hc 3 k3 rfl
  obtain ⟨c4, a4, b4⟩ := hc 4 k4 rfl
  obtain ⟨c5, a5, b5⟩ := hc 5 k5 rfl
  rw [Nat.add_zero] at c0
  have ct : ∀ i (h : i < t.length), w.cell? ⟨b, off + 6 + i, none⟩ = some (.int .u8 t[i]) ∧ 0 ≤ t[i] ∧ t[i] ≤ 255 := by
    intro i h
    have := hc (6 + i) t[i] (by
      rw [List.getElem?_append_left (by simp only [List.length_cons]; omega)]
      rw [show 6 + i = i + 1 + 1 + 1 + 1 + 1 + 1 by omega]
      simp [h])
    rwa [← Nat.add_assoc] at this
  obtain ⟨cl, _, _⟩ := hc (t.length + 6) c (by rw [List.getElem?_append_right (by simp)]; simp)
  have hlen : ((k0 :: k1 :: k2 :: k3 :: k4 :: k5 :: t) ++ [c]).length = t.length + 7 := by simp
  have hcx := hx.1
  have hrow : rowRep byteS ok w (some ⟨b, off, none⟩) cx (k0 :: k1 :: k2 :: k3 :: k4 :: k5 :: t) := by
    have := hx.take (t.length + 6)
    rwa [List.take_append_of_le_length (by simp), List.take_of_length_le (by simp)] at this
  have hl := hx.len_le
  rw [hlen] at hcx hl ⊢
  have hnum := or_num k1 k2 k3 a1 b1 a2 b2 a3 b3
  have hver := or_ver k4 k5 a4 b4 a5 b5
  have n0 : 0 ≤ numOf k1 k2 k3 := by unfold numOf; omega
  have n1 : numOf k1 k2 k3 ≤ 16777215 := by unfold numOf; omega
  have v0 : 0 ≤ verOf k4 k5 := by unfold verOf; omega
  have v1 : verOf k4 k5 ≤ 65535 := by unfold verOf; omega
  have hlt : t.length ≤ 9223372036854775800 := by omega
  clear hc hlen hx hl h7
  by_cases hs : sumB (k0 :: k1 :: k2 :: k3 :: k4 :: k5 :: t) = c
  case neg =>
    have hs' : (sumB (k0 :: k1 :: k2 :: k3 :: k4 :: k5 :: t) != c) = true := by rw [bne_iff_ne]; exact hs
    refine (parse_sum k0 k1 k2 k3 k4 k5 c _ _ t ok b off cx w hrow c0 c1 c2 c3 c4 c5 ct cl hcx hlt a0 b0 a1 b1 a2 b2 a3 b3 a4 b4 a5 b5 hnum hver n0 n1 v0 v1 hbl hs').mono fun e w' h => endsBad_is h ?_
    simp only [parseOf, if_neg hs]
  have hs' : (sumB (k0 :: k1 :: k2 :: k3 :: k4 :: k5 :: t) != c) = false := by rw [bne_eq_false_iff_eq]; exact hs
  have hp : parseOf (k0 :: k1 :: k2 :: k3 :: k4 :: k5 :: t) c = parseBody k0 (numOf k1 k2 k3) (verOf k4 k5) t := by
    simp only [parseOf, if_pos hs]
  rw [hp]
  clear hp hs
  generalize numOf k1 k2 k3 = num at *
  generalize verOf k4 k5 = ver at *
  unfold parseBody
  by_cases hk1 : k0 = 1
  · subst hk1
    rw [if_pos rfl]
    cases t with
    | nil =>
      exact (parse_add0 k1 k2 k3 k4 k5 c _ _ [] ok b off cx w hrow c0 c1 c2 c3 c4 c5 ct cl hcx hlt (by decide) (by decide) a1 b1 a2 b2 a3 b3 a4 b4 a5 b5 hnum hver n0 n1 v0 v1 hbl hs' rfl).mono fun e w' h => endsBad_is h rfl
    | cons n r =>
      obtain ⟨hn, hn2, hn3⟩ := ct 0 (by simp)
      rw [Nat.add_zero] at hn
      dsimp only [List.getElem_cons_zero] at hn hn2 hn3
      by_cases hr : (r.length : Int) = 2 * n
      · refine (parse_add k1 k2 k3 k4 k5 c _ _ (n :: r) ok b off cx w hrow c0 c1 c2 c3 c4 c5 ct cl hcx hlt (by decide) (by decide) a1 b1 a2 b2 a3 b3 a4 b4 a5 b5 hnum hver n0 n1 v0 v1 hbl hs' (by simp) n hn hn2 hn3 (by rw [bne_eq_false_iff_eq, List.length_cons]; omega)).mono fun e w' h => endsGood_is h ?_
        dsimp only
        rw [if_pos hr, pairsTo_eq hr]
      · refine (parse_addbad k1 k2 k3 k4 k5 c _ _ (n :: r) ok b off cx w hrow c0 c1 c2 c3 c4 c5 ct cl hcx hlt (by decide) (by decide) a1 b1 a2 b2 a3 b3 a4 b4 a5 b5 hnum hver n0 n1 v0 v1 hbl hs' (by simp) n hn hn2 hn3 (by rw [bne_iff_ne, List.length_cons]; omega)).mono fun e w' h => endsBad_is h ?_
        dsimp only
        rw [if_neg hr]
  rw [if_neg hk1]
  by_cases hk2 : k0 = 2
  · subst hk2
    rw [if_pos rfl]
    cases t with
    | nil =>
      exact (parse_stamp0 k1 k2 k3 k4 k5 c _ _ [] ok b off cx w hrow c0 c1 c2 c3 c4 c5 ct cl hcx hlt (by decide) (by decide) a1 b1 a2 b2 a3 b3 a4 b4 a5 b5 hnum hver n0 n1 v0 v1 hbl hs' rfl).mono fun e w' h => endsBad_is h rfl
    | cons n r =>
      obtain ⟨hn, hn2, hn3⟩ := ct 0 (by simp)
      rw [Nat.add_zero] at hn
      dsimp only [List.getElem_cons_zero] at hn hn2 hn3
      by_cases hr : (r.length : Int) = n
      · refine (parse_stamp k1 k2 k3 k4 k5 c _ _ (n :: r) ok b off cx w hrow c0 c1 c2 c3 c4 c5 ct cl hcx hlt (by decide) (by decide) a1 b1 a2 b2 a3 b3 a4 b4 a5 b5 hnum hver n0 n1 v0 v1 hbl hs' (by simp) n hn hn2 hn3 (by rw [bne_eq_false_iff_eq, List.length_cons]; omega)).mono fun e w' h => endsGood_is h ?_
        dsimp only
        rw [if_pos hr, flowsTo_eq hr]
      · refine (parse_stampbad k1 k2 k3 k4 k5 c _ _ (n :: r) ok b off cx w hrow c0 c1 c2 c3 c4 c5 ct cl hcx hlt (by decide) (by decide) a1 b1 a2 b2 a3 b3 a4 b4 a5 b5 hnum hver n0 n1 v0 v1 hbl hs' (by simp) n hn hn2 hn3 (by rw [bne_iff_ne, List.length_cons]; omega)).mono fun e w' h => endsBad_is h ?_
        dsimp only
        rw [if_neg hr]
  rw [if_neg hk2]
  by_cases ht : t = []
  · rw [if_pos ht]
    exact (parse_none k0 k1 k2 k3 k4 k5 c _ _ t ok b off cx w hrow c0 c1 c2 c3 c4 c5 ct cl hcx hlt a0 b0 a1 b1 a2 b2 a3 b3 a4 b4 a5 b5 hnum hver n0 n1 v0 v1 hbl hs' hk1 hk2 (by rw [ht]; rfl)).mono fun e w' h => endsGood_is h rfl
  · rw [if_neg ht]
    exact (parse_nonebad k0 k1 k2 k3 k4 k5 c _ _ t ok b off cx w hrow c0 c1 c2 c3 c4 c5 ct cl hcx hlt a0 b0 a1 b1 a2 b2 a3 b3 a4 b4 a5 b5 hnum hver n0 n1 v0 v1 hbl hs' hk1 hk2 (List.length_pos_iff.2 ht)).mono fun e w' h => endsBad_is h rfl

end Go.Proofs.Ytpbfcpnenpcobaa
