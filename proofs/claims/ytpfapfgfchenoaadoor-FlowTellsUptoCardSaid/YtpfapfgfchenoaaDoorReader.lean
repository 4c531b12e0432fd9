/-
  The reader of a text: a word, and a number.
-/
import Derived.Test.YtpfapfgfchenoaaDoorFlowT
import Derived.Test.YtpfapfgfchenoaaDoorFrm
import Derived.Test.YtpfapfgfchenoaaDoorFacts
import Derived.Test.YtpfapfgfchenoaaDoorTo
import Derived.Test.YtpfapfgfchenoaaDoorShelfD
import Derived.WalkKit
import Derived.WalkSpells
import Derived.WalkLawsBesides
import Derived.Lib.Hide
import Derived.Deep.LoopGhost
import Derived.Deep.QuietTactic
import Derived.BigQuiet
import Derived.Deep.RegionWith
import Derived.Handy
import Derived.Deep.Cut
import Derived.Lib.AtoiErrMem
set_option linter.unusedSimpArgs false
set_option linter.unusedVariables false
namespace Go.St
open Go.RowKit
theorem str_len (s : ByteArray) : s.data.toList.length = s.size := by rw [Array.length_toList]; rfl
theorem str_tail {s : ByteArray} {p : Nat} (hp : p ≤ s.size) : (s.extract p s.size).data.toList = s.data.toList.drop p := by
  rw [Lib.extract_data, List.take_of_length_le]
  rw [List.length_drop, str_len]
  exact Nat.le_refl _
theorem str_mid {s : ByteArray} {p k : Nat} : (s.extract p k).data.toList = (s.data.toList.drop p).take (k - p) := Lib.extract_data s p k
theorem str_at {s : ByteArray} {k : Nat} (h : k < s.size) : s.data.toList[k]? = some (s[k]'h) := by
  rw [List.getElem?_eq_getElem (by rw [str_len]; exact h)]
  rfl
theorem digs_at {l : List UInt8} {k : Nat} (h : k < digs l) : ∃ c, l[k]? = some c ∧ isDig c = true := by
  have h1 := digs_all l
  have h2 := digs_le l
  have h3 : k < l.length := by omega
  refine ⟨l[k], List.getElem?_eq_getElem h3, h1 _ ?_⟩
  exact List.mem_take_iff_getElem.2 ⟨k, by omega, rfl⟩
theorem digs_end {l : List UInt8} {c : UInt8} (h : l[digs l]? = some c) : isDig c = false := by
  induction l with
  | nil => simp at h
  | cons d r ih =>
    unfold digs at h
    split at h
    · rw [List.getElem?_cons_succ] at h; exact ih h
    · rename_i hd
      obtain rfl : d = c := by simpa using h
      simpa using hd
/-- a digit's loop: how far it is, and whether it goes on -/
theorem digs_go {l : List UInt8} {k : Nat} {c : UInt8} (hk : k ≤ digs l) (h : l[k]? = some c) : (isDig c = true → k + 1 ≤ digs l) ∧ (isDig c = false → k = digs l) := by
  constructor
  · intro hc
    apply Classical.byContradiction
    intro hn
    have : k = digs l := by omega
    subst this
    rw [digs_end h] at hc; cases hc
  · intro hc
    apply Classical.byContradiction
    intro hn
    obtain ⟨d, hd, h2⟩ := digs_at (l := l) (k := k) (by omega)
    rw [h] at hd
    obtain rfl : c = d := by simpa using hd
    rw [hc] at h2; cases h2
theorem dec_all : ∀ {l : List UInt8} {n : Nat}, (∀ c ∈ l, isDig c = true) → Lib.decFrom n l = some (l.foldl (fun n c => n * 10 + (c.toNat - 48)) n)
  | [], _, _ => rfl
  | c :: r, n, h => by
    have hc := h c (by simp)
    unfold isDig at hc
    rw [Bool.and_eq_true, decide_eq_true_eq, decide_eq_true_eq] at hc
    unfold Lib.decFrom Lib.digitVal
    rw [if_pos hc]
    show Lib.decFrom (n * 10 + (c.toNat - 48)) r = _
    rw [dec_all (fun x hx => h x (by simp [hx]))]
    rfl
theorem atoi_digs {l : List UInt8} (h : ∀ c ∈ l, isDig c = true) (hne : l ≠ []) : Lib.atoi l = some ((decVal l : Nat) : Int) := by
  cases l with
  | nil => exact absurd rfl hne
  | cons c r =>
    have hc := h c (by simp)
    unfold isDig at hc
    rw [Bool.and_eq_true, decide_eq_true_eq, decide_eq_true_eq] at hc
    have h45 : (c == 45) = false := by
      rw [beq_eq_false_iff_ne]; rintro rfl; exact absurd hc.1 (by decide)
    have h43 : (c == 43) = false := by
      rw [beq_eq_false_iff_ne]; rintro rfl; exact absurd hc.1 (by decide)
    unfold Lib.atoi
    dsimp only
    rw [h45, h43]
    simp only [Bool.false_eq_true, if_false]
    unfold Lib.decNat
    rw [if_neg (by simp), dec_all h]
    rfl
theorem decVal_le : ∀ {l : List UInt8}, (∀ c ∈ l, isDig c = true) → decVal l < 10 ^ l.length := by
  have : ∀ (l : List UInt8) (n : Nat), (∀ c ∈ l, isDig c = true) → l.foldl (fun n c => n * 10 + (c.toNat - 48)) n < (n + 1) * 10 ^ l.length := by
    intro l
    induction l with
    | nil => intro n _; simp
    | cons c r ih =>
      intro n h
      have hc := h c (by simp)
      unfold isDig at hc
      rw [Bool.and_eq_true, decide_eq_true_eq, decide_eq_true_eq] at hc
      have := ih (n * 10 + (c.toNat - 48)) (fun x hx => h x (by simp [hx]))
      rw [List.foldl_cons, List.length_cons, Nat.pow_succ]
      refine Nat.lt_of_lt_of_le this ?_
      calc (n * 10 + (c.toNat - 48) + 1) * 10 ^ r.length ≤ ((n + 1) * 10) * 10 ^ r.length := Nat.mul_le_mul_right _ (by omega)
        _ = (n + 1) * (10 ^ r.length * 10) := by rw [Nat.mul_assoc, Nat.mul_comm 10]
  intro l h
  have := this l 0 h
  simpa [decVal] using this
/-- what num tells -/
structure NumAt (s : ByteArray) (p : Nat) (v : Int) (q : Nat) (bad : Bool) : Prop where
  le : p ≤ q ∧ q ≤ s.size
  v4 : 0 ≤ v ∧ v < 10000
  some_ : bad = false → numP (s.data.toList.drop p) = some (v, s.data.toList.drop q) ∧ p < q
  none_ : bad = true → numP (s.data.toList.drop p) = none
theorem num_bad {s : ByteArray} {p : Nat} (hp : p ≤ s.size) (h : digs (s.data.toList.drop p) = 0 ∨ 4 < digs (s.data.toList.drop p) ∨ (1 < digs (s.data.toList.drop p) ∧ s.data.toList[p]? = some 48)) : NumAt s p 0 p true := by
  refine ⟨⟨Nat.le_refl _, hp⟩, by decide, (fun e => nomatch e), fun _ => ?_⟩
  unfold numP
  rw [if_pos]
  rw [List.head?_drop]
  exact h
theorem num_good {s : ByteArray} {p : Nat} (hp : p ≤ s.size) (h0 : digs (s.data.toList.drop p) ≠ 0) (h4 : ¬ 4 < digs (s.data.toList.drop p)) (hz : ¬ (1 < digs (s.data.toList.drop p) ∧ s.data.toList[p]? = some 48)) :
    NumAt s p ((decVal ((s.data.toList.drop p).take (digs (s.data.toList.drop p))) : Nat) : Int) (p + digs (s.data.toList.drop p)) false ∧ Lib.atoi ((s.data.toList.drop p).take (digs (s.data.toList.drop p))) = some ((decVal ((s.data.toList.drop p).take (digs (s.data.toList.drop p))) : Nat) : Int) := by
  have hle := digs_le (s.data.toList.drop p)
  rw [List.length_drop, str_len] at hle
  have hall := digs_all (s.data.toList.drop p)
  have hlen : ((s.data.toList.drop p).take (digs (s.data.toList.drop p))).length = digs (s.data.toList.drop p) := by rw [List.length_take, List.length_drop, str_len]; omega
  have hv := decVal_le hall
  rw [hlen] at hv
  have h10 : 10 ^ digs (s.data.toList.drop p) ≤ 10 ^ 4 := Nat.pow_le_pow_right (by decide) (by omega)
  refine ⟨⟨⟨by omega, by omega⟩, ⟨by omega, by omega⟩, fun _ => ⟨?_, by omega⟩, (fun e => nomatch e)⟩, atoi_digs hall (by intro e; rw [e] at hlen; simp at hlen; omega)⟩
  unfold numP
  rw [if_neg (by
    rintro (e | e | e)
    · exact h0 e
    · exact h4 e
    · exact hz ⟨e.1, by rw [← List.head?_drop]; exact e.2⟩), List.drop_drop]
end Go.St
namespace Go.Proofs.YtpfapfgfchenoaaDoor
open Go.RowKit Go.St

set_option maxRecDepth 100000 in
theorem eat_c (s : ByteArray) (hs : s.size ≤ 2000) (p : Nat) (hp : p ≤ s.size) (bad : Bool) (rb B : Nat) (hB : B ≤ rb) (w : World) (h : blockIs w rb 37 #[.string s, .int .i64 (p : Int), .bool bad]) (wd : ByteArray) (hw : wd.size ≤ 100) :
    Calls Tryd.prog 28 #[.pointer (some ⟨rb, 0, none⟩), .string wd] w fun e w' => ∃ q : Nat, e = .returned (.bool (Lib.hasPrefix (s.data.toList.drop p) wd.data.toList)) ∧ blockIs w' rb 37 #[.string s, .int .i64 (q : Int), .bool bad] ∧ Frm (fun k => k ≠ rb) B w w' ∧ (Lib.hasPrefix (s.data.toList.drop p) wd.data.toList = true → q = p + wd.size) ∧ (Lib.hasPrefix (s.data.toList.drop p) wd.data.toList = false → q = p) := by
  obtain ⟨r1, r2⟩ := h.cells
  have hrl := h.lt
  have c0 : (0 : Int) ≤ (p : Int) := by omega
  have c1 : (p : Int) ≤ (s.size : Int) := by omega
  have hS1 : SC [(⟨rb, 0, none⟩, (.string s)), (⟨rb, 1, none⟩, (.int .i64 (p : Int)))] w := ⟨h.cells.1 0, h.cells.1 1, trivial⟩
  have hS0 : SC [(⟨rb, 0, none⟩, (.string s)), (⟨rb, 1, none⟩, (.int .i64 (p : Int)))] w.drew := hS1
  have HT := Lib.hid (str_tail hp)
  go_enter Tryd.func28, Tryd.ntmps28
  go_upto_region 1 with fail
  clear r1 r2
  cases hb : Lib.hasPrefix (s.data.toList.drop p) wd.data.toList with
  | false =>
    have HB := Lib.hid hb
    clear hb
    refine wp_region_to (SC [(⟨rb, 0, none⟩, (.string s)), (⟨rb, 1, none⟩, (.int .i64 (p : Int)))]) 99 (fun a0 a' w' => ∃ v5 v6 v7 v8 v9 v10 v11 v12 v13 v14 v15, a' = puts a0 [(5, v5), (6, v6), (7, v7), (8, v8), (9, v9), (10, v10), (11, v11), (12, v12), (13, v13), (14, v14), (15, v15), (16, .bool true)] ∧ Below w.heap.size w w') (by kernel_rfl) ?_ ?_
    · intro Q' hR hQp
      have hb0 : Below w.heap.size w w.drew := by (repeat' (first | with_reducible (first | exact Below.refl _ _ | assumption | refine Below.drew ?_ | refine Below_drewN ?_ _ | refine Below.alloc ?_ ?_ _ | refine Below.setCell ?_ ?_ _) | omega | (simp; done) | (simp; omega)))
      have hS : SC [(⟨rb, 0, none⟩, (.string s)), (⟨rb, 1, none⟩, (.int .i64 (p : Int)))] w.drew := hS0
      generalize w.drew = wa at *
      refine wpAnyK_takes hQp hS [0,4,9,1,5,2,6,3,7,8] ?_
      iterate 10 (refine takeK_cons _ rfl (by kernel_rfl) (yields_value (by kernel_rfl) (by intro w0 hw0; have hw1 := hw0; simp only [SC] at hw1; first | (go_simp; done) | (go_simp; rfl))) ?_; simp only [Act.put, List.getElem_toArray, List.getElem_cons_succ, List.getElem_cons_zero, List.setIfInBounds_toArray, List.set_cons_succ, List.set_cons_zero])
      refine takeK_nil ?_
      --CUT1
      clear hS
      refine wpAnyK_call (i := 10) rfl (by kernel_rfl) (by kernel_rfl) fun K10 hK10 => ?_
      go_simp
      go_wp2_with fail
      refine (Tryd.strings_HasPrefix _ _ _).mono ?_
      rintro e wb ⟨rfl, rfl⟩
      simp only [Int.toNat_natCast, HT.out, HB.out]
      go_wp2_with fail
      have hS : _ := SC.later hb0 hS1
      refine hK10 _ _ (fun _ => hS) ?_
      clear hK10
      refine wpAnyK_takes hQp hS [11] ?_
      iterate 1 (refine takeK_cons _ rfl (by kernel_rfl) (yields_value (by kernel_rfl) (by intro w0 hw0; have hw1 := hw0; simp only [SC] at hw1; first | (go_simp; done) | (go_simp; rfl))) ?_; simp only [Act.put, List.getElem_toArray, List.getElem_cons_succ, List.getElem_cons_zero, List.setIfInBounds_toArray, List.set_cons_succ, List.set_cons_zero])
      refine takeK_nil ?_
      refine wpAnyK_done (by kernel_rfl) ?_ _
      refine hR _ _ ?_
      iterate 11 apply Exists.intro
      refine ⟨?_, hb0⟩
      simp only [puts, Act.put, List.setIfInBounds_toArray, List.set_cons_succ, List.set_cons_zero]
      rfl
    rintro a' w8 ⟨v5, v6, v7, v8, v9, v10, v11, v12, v13, v14, v15, rfl, hb8⟩
    simp only [puts, Act.put, List.setIfInBounds_toArray, List.set_cons_succ, List.set_cons_zero]
    rename World => w1
    have h1 := h.under hb8
    clear hS0 hS1
    go_wp2
    go_ret
    rw [HB.out]
    exact ⟨p, rfl, h1, Frm.of hb8 (by omega), (fun e => nomatch e), fun _ => rfl⟩
  | true =>
    have HB := Lib.hid hb
    clear hb
    refine wp_region_to (SC [(⟨rb, 0, none⟩, (.string s)), (⟨rb, 1, none⟩, (.int .i64 (p : Int)))]) 99 (fun a0 a' w' => ∃ v5 v6 v7 v8 v9 v10 v11 v12 v13 v14 v15, a' = puts a0 [(5, v5), (6, v6), (7, v7), (8, v8), (9, v9), (10, v10), (11, v11), (12, v12), (13, v13), (14, v14), (15, v15), (16, .bool false)] ∧ Below w.heap.size w w') (by kernel_rfl) ?_ ?_
    · intro Q' hR hQp
      have hb0 : Below w.heap.size w w.drew := by (repeat' (first | with_reducible (first | exact Below.refl _ _ | assumption | refine Below.drew ?_ | refine Below_drewN ?_ _ | refine Below.alloc ?_ ?_ _ | refine Below.setCell ?_ ?_ _) | omega | (simp; done) | (simp; omega)))
      have hS : SC [(⟨rb, 0, none⟩, (.string s)), (⟨rb, 1, none⟩, (.int .i64 (p : Int)))] w.drew := hS0
      generalize w.drew = wa at *
      refine wpAnyK_takes hQp hS [0,4,9,1,5,2,6,3,7,8] ?_
      iterate 10 (refine takeK_cons _ rfl (by kernel_rfl) (yields_value (by kernel_rfl) (by intro w0 hw0; have hw1 := hw0; simp only [SC] at hw1; first | (go_simp; done) | (go_simp; rfl))) ?_; simp only [Act.put, List.getElem_toArray, List.getElem_cons_succ, List.getElem_cons_zero, List.setIfInBounds_toArray, List.set_cons_succ, List.set_cons_zero])
      refine takeK_nil ?_
      clear hS
      refine wpAnyK_call (i := 10) rfl (by kernel_rfl) (by kernel_rfl) fun K10 hK10 => ?_
      go_simp
      go_wp2_with fail
      refine (Tryd.strings_HasPrefix _ _ _).mono ?_
      rintro e wb ⟨rfl, rfl⟩
      simp only [Int.toNat_natCast, HT.out, HB.out]
      go_wp2_with fail
      have hS : _ := SC.later hb0 hS1
      refine hK10 _ _ (fun _ => hS) ?_
      clear hK10
      refine wpAnyK_takes hQp hS [11] ?_
      iterate 1 (refine takeK_cons _ rfl (by kernel_rfl) (yields_value (by kernel_rfl) (by intro w0 hw0; have hw1 := hw0; simp only [SC] at hw1; first | (go_simp; done) | (go_simp; rfl))) ?_; simp only [Act.put, List.getElem_toArray, List.getElem_cons_succ, List.getElem_cons_zero, List.setIfInBounds_toArray, List.set_cons_succ, List.set_cons_zero])
      refine takeK_nil ?_
      refine wpAnyK_done (by kernel_rfl) ?_ _
      refine hR _ _ ?_
      iterate 11 apply Exists.intro
      refine ⟨?_, hb0⟩
      simp only [puts, Act.put, List.setIfInBounds_toArray, List.set_cons_succ, List.set_cons_zero]
      rfl
    rintro a' w8 ⟨v5, v6, v7, v8, v9, v10, v11, v12, v13, v14, v15, rfl, hb8⟩
    simp only [puts, Act.put, List.setIfInBounds_toArray, List.set_cons_succ, List.set_cons_zero]
    --CUT2
    rename World => w1
    have h1 := h.under hb8
    obtain ⟨r1, r2⟩ := h1.cells
    have hrl1 := h1.lt
    have hw1 : IntKind.i64.wrap ((p : Int) + (wd.size : Int)) = (p : Int) + (wd.size : Int) := IntWalk.i64_in _ (by omega)
    have h2 := h1.set 1 (.int .i64 ((p : Int) + (wd.size : Int)))
    simp only [List.setIfInBounds_toArray, List.set_cons_succ, List.set_cons_zero] at h2
    have hF : Frm (fun k => k ≠ rb) B w (w1.setCell ⟨rb, 1, none⟩ (.int .i64 ((p : Int) + (wd.size : Int)))) := (Frm.of hb8 (by omega)).trans (Frm.set (a := ⟨rb, 1, none⟩) (fun h => h rfl) hB _)
    clear hS0 hS1
    go_wp2
    go_ret
    rw [HB.out]
    exact ⟨p + wd.size, rfl, h2, hF, fun _ => rfl, (fun e => nomatch e)⟩

set_option maxRecDepth 100000 in
set_option maxHeartbeats 16000000 in
theorem num_c (s : ByteArray) (hs : s.size ≤ 2000) (p : Nat) (hp : p ≤ s.size) (rb B : Nat) (hB : B ≤ rb) (w : World) (h : blockIs w rb 37 #[.string s, .int .i64 (p : Int), .bool false]) :
    Calls Tryd.prog 27 #[.pointer (some ⟨rb, 0, none⟩)] w fun e w' => ∃ (v : Int) (q : Nat) (bad : Bool), e = .returned (.int .i64 v) ∧ blockIs w' rb 37 #[.string s, .int .i64 (q : Int), .bool bad] ∧ Frm (fun k => k ≠ rb) B w w' ∧ NumAt s p v q bad := by
  obtain ⟨r1, r2⟩ := h.cells
  have hrl := h.lt
  have hdl := digs_le (s.data.toList.drop p)
  rw [List.length_drop, str_len] at hdl
  have HG := Lib.hid (fun (k : Nat) (c : UInt8) => digs_go (l := s.data.toList.drop p) (k := k) (c := c))
  have HBAD := Lib.hid (num_bad (s := s) hp)
  have HGOOD := Lib.hid (num_good (s := s) hp)
  have HAT := Lib.hid (fun (k : Nat) (hk : k < s.size) => str_at hk)
  generalize digs (s.data.toList.drop p) = D at *
  go_enter Tryd.func27, Tryd.ntmps27
  go_wp2
  clear r1 r2
  --CUT3
  go_loopw [3] (fun kv wr => ∃ k : Nat, kv = .int .i64 (k : Int) ∧ p ≤ k ∧ k ≤ p + D ∧ Below w.heap.size w wr) (fun kv _ => p + D - (intOf kv).toNat)
  case atStart => exact ⟨p, rfl, Nat.le_refl _, Nat.le_add_right _ _, Below.refl _ _⟩
  case round =>
    obtain ⟨k, rfl, hpk, hkD, hb⟩ := hrel
    rename World => wo
    have h1 := h.under hb
    obtain ⟨r1, r2⟩ := h1.cells
    have hrl1 := h1.lt
    by_cases hlt : k < s.size
    case pos =>
      have b1 : (k : Int) < (s.size : Int) := by omega
      have b0 : (0 : Int) ≤ (k : Int) := by omega
      have hat := HAT.out k hlt
      have hgo := HG.out (k - p) (s[k]'hlt) (by omega) (by rw [List.getElem?_drop, show p + (k - p) = k by omega]; exact hat)
      have HGO := Lib.hid hgo
      have hg9 : isDig (s[k]'hlt) = (decide (48 ≤ (s[k]'hlt).toNat) && decide ((s[k]'hlt).toNat ≤ 57)) := rfl
      have HG9 := Lib.hid hg9
      clear hat hgo hg9
      --CUT4
      by_cases h48 : 48 ≤ (s[k]'hlt).toNat
      case pos =>
        have d1 : (48 : Int) ≤ ((s[k]'hlt).toNat : Int) := by omega
        by_cases h57 : (s[k]'hlt).toNat ≤ 57
        case pos =>
          have d2 : ((s[k]'hlt).toNat : Int) ≤ 57 := by omega
          have hgo := HGO.out.1 (by rw [HG9.out, decide_eq_true h48, decide_eq_true h57]; rfl)
          --CUT5
          go_wp2
          case roundEnd =>
            go_roundw
            case rel => exact ⟨k + 1, by go_num, by omega, by omega, hb⟩
            case measure => simp [intOf] <;> omega
        case neg =>
          have d2 : ¬ ((s[k]'hlt).toNat : Int) ≤ 57 := by omega
          have HK := Lib.hid (HGO.out.2 (by rw [HG9.out, decide_eq_false h57]; simp))
          --CUT6
          go_wp2
          --CUT7
          have hkd : k = p + D := by have := HK.out; omega
          have HKD := Lib.hid hkd
          have hS1 : SC [(⟨rb, 0, none⟩, (.string s)), (⟨rb, 1, none⟩, (.int .i64 (p : Int)))] wo := ⟨h1.cells.1 0, h1.cells.1 1, trivial⟩
          have hS0 : SC [(⟨rb, 0, none⟩, (.string s)), (⟨rb, 1, none⟩, (.int .i64 (p : Int)))] wo.drew := hS1
          have hw4 : IntKind.i64.wrap ((p : Int) + 4) = (p : Int) + 4 := IntWalk.i64_in _ (by omega)
          have hw1 : IntKind.i64.wrap ((p : Int) + 1) = (p : Int) + 1 := IntWalk.i64_in _ (by omega)
          clear r1 r2 hkd
          by_cases hD0 : D = 0
          case pos =>
            have e1 : ((k : Int) == (p : Int)) = true := by rw [beq_iff_eq]; have := HKD.out; omega
            have HBD := Lib.hid (HBAD.out (.inl hD0))
            clear hD0
            --CUTA1
            refine wp_region_to (SC [(⟨rb, 0, none⟩, (.string s)), (⟨rb, 1, none⟩, (.int .i64 (p : Int)))]) 99 (fun a0 a' w' => ∃ v37 v38 v39 v40 v41 v42 v43 v44 v45 v46 v47 v48 v49 v50 v51 v52 v53 v54 v55 v56 v57 v58 v59 v60 v61 v62 v63 v64 v65 v66 v67 v68 v69 v70 v71, a' = puts a0 [(37, v37), (38, v38), (39, v39), (40, v40), (41, v41), (42, v42), (43, v43), (44, v44), (45, v45), (46, v46), (47, v47), (48, v48), (49, v49), (50, v50), (51, v51), (52, v52), (53, v53), (54, v54), (55, v55), (56, v56), (57, v57), (58, v58), (59, v59), (60, v60), (61, v61), (62, v62), (63, v63), (64, v64), (65, v65), (66, v66), (67, v67), (68, v68), (69, v69), (70, v70), (71, v71), (72, .bool true)] ∧ Below wo.heap.size wo w') (by kernel_rfl) ?_ ?_
            · intro Q' hR hQp
              have hb0 : Below wo.heap.size wo wo.drew := by (repeat' (first | with_reducible (first | exact Below.refl _ _ | assumption | refine Below.drew ?_ | refine Below_drewN ?_ _ | refine Below.alloc ?_ ?_ _ | refine Below.setCell ?_ ?_ _) | omega | (simp; done) | (simp; omega)))
              have hS : SC [(⟨rb, 0, none⟩, (.string s)), (⟨rb, 1, none⟩, (.int .i64 (p : Int)))] wo.drew := hS0
              generalize wo.drew = wa at *
              refine wpAnyK_takes hQp hS [0,1,2,3,4,5,6] ?_
              iterate 7 (refine takeK_cons _ rfl (by kernel_rfl) (yields_value (by kernel_rfl) (by intro w0 hw0; have hw1 := hw0; simp only [SC] at hw1; first | (go_simp; done) | (go_simp; rfl))) ?_; simp only [Act.put, List.getElem_toArray, List.getElem_cons_succ, List.getElem_cons_zero, List.setIfInBounds_toArray, List.set_cons_succ, List.set_cons_zero])
              refine takeK_nil ?_
              refine wpAnyK_take' (i := 7) undef rfl (by kernel_rfl) (fun _ _ _ h => hQp _ _ _ _ h) hS (.inr ⟨by kernel_rfl, rfl⟩) ?_; simp only [Act.put, List.getElem_toArray, List.getElem_cons_succ, List.getElem_cons_zero, List.setIfInBounds_toArray, List.set_cons_succ, List.set_cons_zero]
              refine wpAnyK_take' (i := 8) undef rfl (by kernel_rfl) (fun _ _ _ h => hQp _ _ _ _ h) hS (.inr ⟨by kernel_rfl, rfl⟩) ?_; simp only [Act.put, List.getElem_toArray, List.getElem_cons_succ, List.getElem_cons_zero, List.setIfInBounds_toArray, List.set_cons_succ, List.set_cons_zero]
              refine wpAnyK_take' (i := 9) undef rfl (by kernel_rfl) (fun _ _ _ h => hQp _ _ _ _ h) hS (.inr ⟨by kernel_rfl, rfl⟩) ?_; simp only [Act.put, List.getElem_toArray, List.getElem_cons_succ, List.getElem_cons_zero, List.setIfInBounds_toArray, List.set_cons_succ, List.set_cons_zero]
              refine wpAnyK_take' (i := 10) undef rfl (by kernel_rfl) (fun _ _ _ h => hQp _ _ _ _ h) hS (.inr ⟨by kernel_rfl, rfl⟩) ?_; simp only [Act.put, List.getElem_toArray, List.getElem_cons_succ, List.getElem_cons_zero, List.setIfInBounds_toArray, List.set_cons_succ, List.set_cons_zero]
              refine wpAnyK_take' (i := 11) undef rfl (by kernel_rfl) (fun _ _ _ h => hQp _ _ _ _ h) hS (.inr ⟨by kernel_rfl, rfl⟩) ?_; simp only [Act.put, List.getElem_toArray, List.getElem_cons_succ, List.getElem_cons_zero, List.setIfInBounds_toArray, List.set_cons_succ, List.set_cons_zero]
              refine wpAnyK_take' (i := 12) undef rfl (by kernel_rfl) (fun _ _ _ h => hQp _ _ _ _ h) hS (.inr ⟨by kernel_rfl, rfl⟩) ?_; simp only [Act.put, List.getElem_toArray, List.getElem_cons_succ, List.getElem_cons_zero, List.setIfInBounds_toArray, List.set_cons_succ, List.set_cons_zero]
              refine wpAnyK_take' (i := 13) undef rfl (by kernel_rfl) (fun _ _ _ h => hQp _ _ _ _ h) hS (.inr ⟨by kernel_rfl, rfl⟩) ?_; simp only [Act.put, List.getElem_toArray, List.getElem_cons_succ, List.getElem_cons_zero, List.setIfInBounds_toArray, List.set_cons_succ, List.set_cons_zero]
              refine wpAnyK_takes hQp hS [14,15] ?_
              iterate 2 (refine takeK_cons _ rfl (by kernel_rfl) (yields_value (by kernel_rfl) (by intro w0 hw0; have hw1 := hw0; simp only [SC] at hw1; first | (go_simp; done) | (go_simp; rfl))) ?_; simp only [Act.put, List.getElem_toArray, List.getElem_cons_succ, List.getElem_cons_zero, List.setIfInBounds_toArray, List.set_cons_succ, List.set_cons_zero])
              refine takeK_nil ?_
              refine wpAnyK_take' (i := 16) undef rfl (by kernel_rfl) (fun _ _ _ h => hQp _ _ _ _ h) hS (.inr ⟨by kernel_rfl, rfl⟩) ?_; simp only [Act.put, List.getElem_toArray, List.getElem_cons_succ, List.getElem_cons_zero, List.setIfInBounds_toArray, List.set_cons_succ, List.set_cons_zero]
              refine wpAnyK_take' (i := 17) undef rfl (by kernel_rfl) (fun _ _ _ h => hQp _ _ _ _ h) hS (.inr ⟨by kernel_rfl, rfl⟩) ?_; simp only [Act.put, List.getElem_toArray, List.getElem_cons_succ, List.getElem_cons_zero, List.setIfInBounds_toArray, List.set_cons_succ, List.set_cons_zero]
              refine wpAnyK_take' (i := 18) undef rfl (by kernel_rfl) (fun _ _ _ h => hQp _ _ _ _ h) hS (.inr ⟨by kernel_rfl, rfl⟩) ?_; simp only [Act.put, List.getElem_toArray, List.getElem_cons_succ, List.getElem_cons_zero, List.setIfInBounds_toArray, List.set_cons_succ, List.set_cons_zero]
              refine wpAnyK_take' (i := 19) undef rfl (by kernel_rfl) (fun _ _ _ h => hQp _ _ _ _ h) hS (.inr ⟨by kernel_rfl, rfl⟩) ?_; simp only [Act.put, List.getElem_toArray, List.getElem_cons_succ, List.getElem_cons_zero, List.setIfInBounds_toArray, List.set_cons_succ, List.set_cons_zero]
              refine wpAnyK_take' (i := 20) undef rfl (by kernel_rfl) (fun _ _ _ h => hQp _ _ _ _ h) hS (.inr ⟨by kernel_rfl, rfl⟩) ?_; simp only [Act.put, List.getElem_toArray, List.getElem_cons_succ, List.getElem_cons_zero, List.setIfInBounds_toArray, List.set_cons_succ, List.set_cons_zero]
              refine wpAnyK_take' (i := 21) undef rfl (by kernel_rfl) (fun _ _ _ h => hQp _ _ _ _ h) hS (.inr ⟨by kernel_rfl, rfl⟩) ?_; simp only [Act.put, List.getElem_toArray, List.getElem_cons_succ, List.getElem_cons_zero, List.setIfInBounds_toArray, List.set_cons_succ, List.set_cons_zero]
              refine wpAnyK_take' (i := 22) undef rfl (by kernel_rfl) (fun _ _ _ h => hQp _ _ _ _ h) hS (.inr ⟨by kernel_rfl, rfl⟩) ?_; simp only [Act.put, List.getElem_toArray, List.getElem_cons_succ, List.getElem_cons_zero, List.setIfInBounds_toArray, List.set_cons_succ, List.set_cons_zero]
              refine wpAnyK_take' (i := 23) undef rfl (by kernel_rfl) (fun _ _ _ h => hQp _ _ _ _ h) hS (.inr ⟨by kernel_rfl, rfl⟩) ?_; simp only [Act.put, List.getElem_toArray, List.getElem_cons_succ, List.getElem_cons_zero, List.setIfInBounds_toArray, List.set_cons_succ, List.set_cons_zero]
              refine wpAnyK_take' (i := 24) undef rfl (by kernel_rfl) (fun _ _ _ h => hQp _ _ _ _ h) hS (.inr ⟨by kernel_rfl, rfl⟩) ?_; simp only [Act.put, List.getElem_toArray, List.getElem_cons_succ, List.getElem_cons_zero, List.setIfInBounds_toArray, List.set_cons_succ, List.set_cons_zero]
              refine wpAnyK_take' (i := 28) undef rfl (by kernel_rfl) (fun _ _ _ h => hQp _ _ _ _ h) hS (.inr ⟨by kernel_rfl, rfl⟩) ?_; simp only [Act.put, List.getElem_toArray, List.getElem_cons_succ, List.getElem_cons_zero, List.setIfInBounds_toArray, List.set_cons_succ, List.set_cons_zero]
              refine wpAnyK_take' (i := 25) undef rfl (by kernel_rfl) (fun _ _ _ h => hQp _ _ _ _ h) hS (.inr ⟨by kernel_rfl, rfl⟩) ?_; simp only [Act.put, List.getElem_toArray, List.getElem_cons_succ, List.getElem_cons_zero, List.setIfInBounds_toArray, List.set_cons_succ, List.set_cons_zero]
              refine wpAnyK_take' (i := 29) undef rfl (by kernel_rfl) (fun _ _ _ h => hQp _ _ _ _ h) hS (.inr ⟨by kernel_rfl, rfl⟩) ?_; simp only [Act.put, List.getElem_toArray, List.getElem_cons_succ, List.getElem_cons_zero, List.setIfInBounds_toArray, List.set_cons_succ, List.set_cons_zero]
              refine wpAnyK_take' (i := 26) undef rfl (by kernel_rfl) (fun _ _ _ h => hQp _ _ _ _ h) hS (.inr ⟨by kernel_rfl, rfl⟩) ?_; simp only [Act.put, List.getElem_toArray, List.getElem_cons_succ, List.getElem_cons_zero, List.setIfInBounds_toArray, List.set_cons_succ, List.set_cons_zero]
              refine wpAnyK_take' (i := 30) undef rfl (by kernel_rfl) (fun _ _ _ h => hQp _ _ _ _ h) hS (.inr ⟨by kernel_rfl, rfl⟩) ?_; simp only [Act.put, List.getElem_toArray, List.getElem_cons_succ, List.getElem_cons_zero, List.setIfInBounds_toArray, List.set_cons_succ, List.set_cons_zero]
              refine wpAnyK_take' (i := 27) undef rfl (by kernel_rfl) (fun _ _ _ h => hQp _ _ _ _ h) hS (.inr ⟨by kernel_rfl, rfl⟩) ?_; simp only [Act.put, List.getElem_toArray, List.getElem_cons_succ, List.getElem_cons_zero, List.setIfInBounds_toArray, List.set_cons_succ, List.set_cons_zero]
              refine wpAnyK_take' (i := 31) undef rfl (by kernel_rfl) (fun _ _ _ h => hQp _ _ _ _ h) hS (.inr ⟨by kernel_rfl, rfl⟩) ?_; simp only [Act.put, List.getElem_toArray, List.getElem_cons_succ, List.getElem_cons_zero, List.setIfInBounds_toArray, List.set_cons_succ, List.set_cons_zero]
              refine wpAnyK_take' (i := 32) undef rfl (by kernel_rfl) (fun _ _ _ h => hQp _ _ _ _ h) hS (.inr ⟨by kernel_rfl, rfl⟩) ?_; simp only [Act.put, List.getElem_toArray, List.getElem_cons_succ, List.getElem_cons_zero, List.setIfInBounds_toArray, List.set_cons_succ, List.set_cons_zero]
              refine wpAnyK_take' (i := 33) undef rfl (by kernel_rfl) (fun _ _ _ h => hQp _ _ _ _ h) hS (.inr ⟨by kernel_rfl, rfl⟩) ?_; simp only [Act.put, List.getElem_toArray, List.getElem_cons_succ, List.getElem_cons_zero, List.setIfInBounds_toArray, List.set_cons_succ, List.set_cons_zero]
              refine wpAnyK_take' (i := 34) undef rfl (by kernel_rfl) (fun _ _ _ h => hQp _ _ _ _ h) hS (.inr ⟨by kernel_rfl, rfl⟩) ?_; simp only [Act.put, List.getElem_toArray, List.getElem_cons_succ, List.getElem_cons_zero, List.setIfInBounds_toArray, List.set_cons_succ, List.set_cons_zero]
              refine wpAnyK_takes hQp hS [35] ?_
              iterate 1 (refine takeK_cons _ rfl (by kernel_rfl) (yields_value (by kernel_rfl) (by intro w0 hw0; have hw1 := hw0; simp only [SC] at hw1; first | (go_simp; done) | (go_simp; rfl))) ?_; simp only [Act.put, List.getElem_toArray, List.getElem_cons_succ, List.getElem_cons_zero, List.setIfInBounds_toArray, List.set_cons_succ, List.set_cons_zero])
              refine takeK_nil ?_
              refine wpAnyK_done (by kernel_rfl) ?_ _
              refine hR _ _ ?_
              iterate 35 apply Exists.intro
              refine ⟨?_, hb0⟩
              simp only [puts, Act.put, List.setIfInBounds_toArray, List.set_cons_succ, List.set_cons_zero]
              rfl
            rintro a' w8 ⟨v37, v38, v39, v40, v41, v42, v43, v44, v45, v46, v47, v48, v49, v50, v51, v52, v53, v54, v55, v56, v57, v58, v59, v60, v61, v62, v63, v64, v65, v66, v67, v68, v69, v70, v71, rfl, hb8⟩
            simp only [puts, Act.put, List.setIfInBounds_toArray, List.set_cons_succ, List.set_cons_zero]
            rename World => w1
            have h2 := h1.under hb8
            obtain ⟨r3, r4⟩ := h2.cells
            have hrl2 := h2.lt
            have h3 := h2.set 2 (.bool true)
            simp only [List.setIfInBounds_toArray, List.set_cons_succ, List.set_cons_zero] at h3
            have hF : Frm (fun k => k ≠ rb) B w (w1.setCell ⟨rb, 2, none⟩ (.bool true)) := (Frm.of (hb.trans (hb8.mono hb.size)) (by omega)).trans (Frm.set (a := ⟨rb, 2, none⟩) (fun h => h rfl) hB _)
            clear hS0 e1
            go_wp2
            go_ret
            exact ⟨0, p, true, rfl, h3, hF, HBD.out⟩
          case neg =>
            have e1 : ((k : Int) == (p : Int)) = false := by rw [beq_eq_false_iff_ne]; have := HKD.out; omega
            by_cases hD4 : 4 < D
            case pos =>
              have e2 : (p : Int) + 4 < (k : Int) := by have := HKD.out; omega
              have HBD := Lib.hid (HBAD.out (.inr (.inl hD4)))
              clear hD0
              --CUTB1
              refine wp_region_to (SC [(⟨rb, 0, none⟩, (.string s)), (⟨rb, 1, none⟩, (.int .i64 (p : Int)))]) 99 (fun a0 a' w' => ∃ v37 v38 v39 v40 v41 v42 v43 v44 v45 v46 v47 v48 v49 v50 v51 v52 v53 v54 v55 v56 v57 v58 v59 v60 v61 v62 v63 v64 v65 v66 v67 v68 v69 v70 v71, a' = puts a0 [(37, v37), (38, v38), (39, v39), (40, v40), (41, v41), (42, v42), (43, v43), (44, v44), (45, v45), (46, v46), (47, v47), (48, v48), (49, v49), (50, v50), (51, v51), (52, v52), (53, v53), (54, v54), (55, v55), (56, v56), (57, v57), (58, v58), (59, v59), (60, v60), (61, v61), (62, v62), (63, v63), (64, v64), (65, v65), (66, v66), (67, v67), (68, v68), (69, v69), (70, v70), (71, v71), (72, .bool true)] ∧ Below wo.heap.size wo w') (by kernel_rfl) ?_ ?_
              · intro Q' hR hQp
                have hb0 : Below wo.heap.size wo wo.drew := by (repeat' (first | with_reducible (first | exact Below.refl _ _ | assumption | refine Below.drew ?_ | refine Below_drewN ?_ _ | refine Below.alloc ?_ ?_ _ | refine Below.setCell ?_ ?_ _) | omega | (simp; done) | (simp; omega)))
                have hS : SC [(⟨rb, 0, none⟩, (.string s)), (⟨rb, 1, none⟩, (.int .i64 (p : Int)))] wo.drew := hS0
                generalize wo.drew = wa at *
                refine wpAnyK_takes hQp hS [0,1,2,3,4,5,6] ?_
                iterate 7 (refine takeK_cons _ rfl (by kernel_rfl) (yields_value (by kernel_rfl) (by intro w0 hw0; have hw1 := hw0; simp only [SC] at hw1; first | (go_simp; done) | (go_simp; rfl))) ?_; simp only [Act.put, List.getElem_toArray, List.getElem_cons_succ, List.getElem_cons_zero, List.setIfInBounds_toArray, List.set_cons_succ, List.set_cons_zero])
                refine takeK_nil ?_
                refine wpAnyK_takes hQp hS [7,8,9,10,11,12,13] ?_
                iterate 7 (refine takeK_cons _ rfl (by kernel_rfl) (yields_value (by kernel_rfl) (by intro w0 hw0; have hw1 := hw0; simp only [SC] at hw1; first | (go_simp; done) | (go_simp; rfl))) ?_; simp only [Act.put, List.getElem_toArray, List.getElem_cons_succ, List.getElem_cons_zero, List.setIfInBounds_toArray, List.set_cons_succ, List.set_cons_zero])
                refine takeK_nil ?_
                refine wpAnyK_takes hQp hS [14,15] ?_
                iterate 2 (refine takeK_cons _ rfl (by kernel_rfl) (yields_value (by kernel_rfl) (by intro w0 hw0; have hw1 := hw0; simp only [SC] at hw1; first | (go_simp; done) | (go_simp; rfl))) ?_; simp only [Act.put, List.getElem_toArray, List.getElem_cons_succ, List.getElem_cons_zero, List.setIfInBounds_toArray, List.set_cons_succ, List.set_cons_zero])
                refine takeK_nil ?_
                refine wpAnyK_take' (i := 16) undef rfl (by kernel_rfl) (fun _ _ _ h => hQp _ _ _ _ h) hS (.inr ⟨by kernel_rfl, rfl⟩) ?_; simp only [Act.put, List.getElem_toArray, List.getElem_cons_succ, List.getElem_cons_zero, List.setIfInBounds_toArray, List.set_cons_succ, List.set_cons_zero]
                refine wpAnyK_take' (i := 17) undef rfl (by kernel_rfl) (fun _ _ _ h => hQp _ _ _ _ h) hS (.inr ⟨by kernel_rfl, rfl⟩) ?_; simp only [Act.put, List.getElem_toArray, List.getElem_cons_succ, List.getElem_cons_zero, List.setIfInBounds_toArray, List.set_cons_succ, List.set_cons_zero]
                refine wpAnyK_take' (i := 18) undef rfl (by kernel_rfl) (fun _ _ _ h => hQp _ _ _ _ h) hS (.inr ⟨by kernel_rfl, rfl⟩) ?_; simp only [Act.put, List.getElem_toArray, List.getElem_cons_succ, List.getElem_cons_zero, List.setIfInBounds_toArray, List.set_cons_succ, List.set_cons_zero]
                refine wpAnyK_take' (i := 19) undef rfl (by kernel_rfl) (fun _ _ _ h => hQp _ _ _ _ h) hS (.inr ⟨by kernel_rfl, rfl⟩) ?_; simp only [Act.put, List.getElem_toArray, List.getElem_cons_succ, List.getElem_cons_zero, List.setIfInBounds_toArray, List.set_cons_succ, List.set_cons_zero]
                refine wpAnyK_take' (i := 20) undef rfl (by kernel_rfl) (fun _ _ _ h => hQp _ _ _ _ h) hS (.inr ⟨by kernel_rfl, rfl⟩) ?_; simp only [Act.put, List.getElem_toArray, List.getElem_cons_succ, List.getElem_cons_zero, List.setIfInBounds_toArray, List.set_cons_succ, List.set_cons_zero]
                refine wpAnyK_take' (i := 21) undef rfl (by kernel_rfl) (fun _ _ _ h => hQp _ _ _ _ h) hS (.inr ⟨by kernel_rfl, rfl⟩) ?_; simp only [Act.put, List.getElem_toArray, List.getElem_cons_succ, List.getElem_cons_zero, List.setIfInBounds_toArray, List.set_cons_succ, List.set_cons_zero]
                refine wpAnyK_take' (i := 22) undef rfl (by kernel_rfl) (fun _ _ _ h => hQp _ _ _ _ h) hS (.inr ⟨by kernel_rfl, rfl⟩) ?_; simp only [Act.put, List.getElem_toArray, List.getElem_cons_succ, List.getElem_cons_zero, List.setIfInBounds_toArray, List.set_cons_succ, List.set_cons_zero]
                refine wpAnyK_take' (i := 23) undef rfl (by kernel_rfl) (fun _ _ _ h => hQp _ _ _ _ h) hS (.inr ⟨by kernel_rfl, rfl⟩) ?_; simp only [Act.put, List.getElem_toArray, List.getElem_cons_succ, List.getElem_cons_zero, List.setIfInBounds_toArray, List.set_cons_succ, List.set_cons_zero]
                refine wpAnyK_take' (i := 24) undef rfl (by kernel_rfl) (fun _ _ _ h => hQp _ _ _ _ h) hS (.inr ⟨by kernel_rfl, rfl⟩) ?_; simp only [Act.put, List.getElem_toArray, List.getElem_cons_succ, List.getElem_cons_zero, List.setIfInBounds_toArray, List.set_cons_succ, List.set_cons_zero]
                refine wpAnyK_take' (i := 28) undef rfl (by kernel_rfl) (fun _ _ _ h => hQp _ _ _ _ h) hS (.inr ⟨by kernel_rfl, rfl⟩) ?_; simp only [Act.put, List.getElem_toArray, List.getElem_cons_succ, List.getElem_cons_zero, List.setIfInBounds_toArray, List.set_cons_succ, List.set_cons_zero]
                refine wpAnyK_take' (i := 25) undef rfl (by kernel_rfl) (fun _ _ _ h => hQp _ _ _ _ h) hS (.inr ⟨by kernel_rfl, rfl⟩) ?_; simp only [Act.put, List.getElem_toArray, List.getElem_cons_succ, List.getElem_cons_zero, List.setIfInBounds_toArray, List.set_cons_succ, List.set_cons_zero]
                refine wpAnyK_take' (i := 29) undef rfl (by kernel_rfl) (fun _ _ _ h => hQp _ _ _ _ h) hS (.inr ⟨by kernel_rfl, rfl⟩) ?_; simp only [Act.put, List.getElem_toArray, List.getElem_cons_succ, List.getElem_cons_zero, List.setIfInBounds_toArray, List.set_cons_succ, List.set_cons_zero]
                refine wpAnyK_take' (i := 26) undef rfl (by kernel_rfl) (fun _ _ _ h => hQp _ _ _ _ h) hS (.inr ⟨by kernel_rfl, rfl⟩) ?_; simp only [Act.put, List.getElem_toArray, List.getElem_cons_succ, List.getElem_cons_zero, List.setIfInBounds_toArray, List.set_cons_succ, List.set_cons_zero]
                refine wpAnyK_take' (i := 30) undef rfl (by kernel_rfl) (fun _ _ _ h => hQp _ _ _ _ h) hS (.inr ⟨by kernel_rfl, rfl⟩) ?_; simp only [Act.put, List.getElem_toArray, List.getElem_cons_succ, List.getElem_cons_zero, List.setIfInBounds_toArray, List.set_cons_succ, List.set_cons_zero]
                refine wpAnyK_take' (i := 27) undef rfl (by kernel_rfl) (fun _ _ _ h => hQp _ _ _ _ h) hS (.inr ⟨by kernel_rfl, rfl⟩) ?_; simp only [Act.put, List.getElem_toArray, List.getElem_cons_succ, List.getElem_cons_zero, List.setIfInBounds_toArray, List.set_cons_succ, List.set_cons_zero]
                refine wpAnyK_take' (i := 31) undef rfl (by kernel_rfl) (fun _ _ _ h => hQp _ _ _ _ h) hS (.inr ⟨by kernel_rfl, rfl⟩) ?_; simp only [Act.put, List.getElem_toArray, List.getElem_cons_succ, List.getElem_cons_zero, List.setIfInBounds_toArray, List.set_cons_succ, List.set_cons_zero]
                refine wpAnyK_take' (i := 32) undef rfl (by kernel_rfl) (fun _ _ _ h => hQp _ _ _ _ h) hS (.inr ⟨by kernel_rfl, rfl⟩) ?_; simp only [Act.put, List.getElem_toArray, List.getElem_cons_succ, List.getElem_cons_zero, List.setIfInBounds_toArray, List.set_cons_succ, List.set_cons_zero]
                refine wpAnyK_take' (i := 33) undef rfl (by kernel_rfl) (fun _ _ _ h => hQp _ _ _ _ h) hS (.inr ⟨by kernel_rfl, rfl⟩) ?_; simp only [Act.put, List.getElem_toArray, List.getElem_cons_succ, List.getElem_cons_zero, List.setIfInBounds_toArray, List.set_cons_succ, List.set_cons_zero]
                refine wpAnyK_take' (i := 34) undef rfl (by kernel_rfl) (fun _ _ _ h => hQp _ _ _ _ h) hS (.inr ⟨by kernel_rfl, rfl⟩) ?_; simp only [Act.put, List.getElem_toArray, List.getElem_cons_succ, List.getElem_cons_zero, List.setIfInBounds_toArray, List.set_cons_succ, List.set_cons_zero]
                refine wpAnyK_takes hQp hS [35] ?_
                iterate 1 (refine takeK_cons _ rfl (by kernel_rfl) (yields_value (by kernel_rfl) (by intro w0 hw0; have hw1 := hw0; simp only [SC] at hw1; first | (go_simp; done) | (go_simp; rfl))) ?_; simp only [Act.put, List.getElem_toArray, List.getElem_cons_succ, List.getElem_cons_zero, List.setIfInBounds_toArray, List.set_cons_succ, List.set_cons_zero])
                refine takeK_nil ?_
                refine wpAnyK_done (by kernel_rfl) ?_ _
                refine hR _ _ ?_
                iterate 35 apply Exists.intro
                refine ⟨?_, hb0⟩
                simp only [puts, Act.put, List.setIfInBounds_toArray, List.set_cons_succ, List.set_cons_zero]
                rfl
              rintro a' w8 ⟨v37, v38, v39, v40, v41, v42, v43, v44, v45, v46, v47, v48, v49, v50, v51, v52, v53, v54, v55, v56, v57, v58, v59, v60, v61, v62, v63, v64, v65, v66, v67, v68, v69, v70, v71, rfl, hb8⟩
              simp only [puts, Act.put, List.setIfInBounds_toArray, List.set_cons_succ, List.set_cons_zero]
              rename World => w1
              have h2 := h1.under hb8
              obtain ⟨r3, r4⟩ := h2.cells
              have hrl2 := h2.lt
              have h3 := h2.set 2 (.bool true)
              simp only [List.setIfInBounds_toArray, List.set_cons_succ, List.set_cons_zero] at h3
              have hF : Frm (fun k => k ≠ rb) B w (w1.setCell ⟨rb, 2, none⟩ (.bool true)) := (Frm.of (hb.trans (hb8.mono hb.size)) (by omega)).trans (Frm.set (a := ⟨rb, 2, none⟩) (fun h => h rfl) hB _)
              clear hS0 e1 e2
              go_wp2
              go_ret
              exact ⟨0, p, true, rfl, h3, hF, HBD.out⟩
            case neg =>
              have e2 : ¬ (p : Int) + 4 < (k : Int) := by have := HKD.out; omega
              by_cases hD1 : 1 < D
              case pos =>
                have e3 : (p : Int) + 1 < (k : Int) := by have := HKD.out; omega
                have hps : p < s.size := by have := HKD.out; omega
                have b5 : (p : Int) < (s.size : Int) := by omega
                have b6 : (0 : Int) ≤ (p : Int) := by omega
                have hatp := HAT.out p hps
                by_cases hz : (s[p]'hps).toNat = 48
                case pos =>
                  have e4 : (((s[p]'hps).toNat : Int) == 48) = true := by rw [beq_iff_eq]; omega
                  have HBD := Lib.hid (HBAD.out (.inr (.inr ⟨hD1, by rw [hatp, show s[p]'hps = 48 from UInt8.toNat_inj.1 hz]⟩)))
                  clear hD0 hatp
                  --CUTC1
                  refine wp_region_to (SC [(⟨rb, 0, none⟩, (.string s)), (⟨rb, 1, none⟩, (.int .i64 (p : Int)))]) 99 (fun a0 a' w' => ∃ v37 v38 v39 v40 v41 v42 v43 v44 v45 v46 v47 v48 v49 v50 v51 v52 v53 v54 v55 v56 v57 v58 v59 v60 v61 v62 v63 v64 v65 v66 v67 v68 v69 v70 v71, a' = puts a0 [(37, v37), (38, v38), (39, v39), (40, v40), (41, v41), (42, v42), (43, v43), (44, v44), (45, v45), (46, v46), (47, v47), (48, v48), (49, v49), (50, v50), (51, v51), (52, v52), (53, v53), (54, v54), (55, v55), (56, v56), (57, v57), (58, v58), (59, v59), (60, v60), (61, v61), (62, v62), (63, v63), (64, v64), (65, v65), (66, v66), (67, v67), (68, v68), (69, v69), (70, v70), (71, v71), (72, .bool true)] ∧ Below wo.heap.size wo w') (by kernel_rfl) ?_ ?_
                  · intro Q' hR hQp
                    have hb0 : Below wo.heap.size wo wo.drew := by (repeat' (first | with_reducible (first | exact Below.refl _ _ | assumption | refine Below.drew ?_ | refine Below_drewN ?_ _ | refine Below.alloc ?_ ?_ _ | refine Below.setCell ?_ ?_ _) | omega | (simp; done) | (simp; omega)))
                    have hS : SC [(⟨rb, 0, none⟩, (.string s)), (⟨rb, 1, none⟩, (.int .i64 (p : Int)))] wo.drew := hS0
                    generalize wo.drew = wa at *
                    refine wpAnyK_takes hQp hS [0,1,2,3,4,5,6] ?_
                    iterate 7 (refine takeK_cons _ rfl (by kernel_rfl) (yields_value (by kernel_rfl) (by intro w0 hw0; have hw1 := hw0; simp only [SC] at hw1; first | (go_simp; done) | (go_simp; rfl))) ?_; simp only [Act.put, List.getElem_toArray, List.getElem_cons_succ, List.getElem_cons_zero, List.setIfInBounds_toArray, List.set_cons_succ, List.set_cons_zero])
                    refine takeK_nil ?_
                    refine wpAnyK_takes hQp hS [7,8,9,10,11,12,13] ?_
                    iterate 7 (refine takeK_cons _ rfl (by kernel_rfl) (yields_value (by kernel_rfl) (by intro w0 hw0; have hw1 := hw0; simp only [SC] at hw1; first | (go_simp; done) | (go_simp; rfl))) ?_; simp only [Act.put, List.getElem_toArray, List.getElem_cons_succ, List.getElem_cons_zero, List.setIfInBounds_toArray, List.set_cons_succ, List.set_cons_zero])
                    refine takeK_nil ?_
                    refine wpAnyK_takes hQp hS [14,15] ?_
                    iterate 2 (refine takeK_cons _ rfl (by kernel_rfl) (yields_value (by kernel_rfl) (by intro w0 hw0; have hw1 := hw0; simp only [SC] at hw1; first | (go_simp; done) | (go_simp; rfl))) ?_; simp only [Act.put, List.getElem_toArray, List.getElem_cons_succ, List.getElem_cons_zero, List.setIfInBounds_toArray, List.set_cons_succ, List.set_cons_zero])
                    refine takeK_nil ?_
                    refine wpAnyK_takes hQp hS [16,17,18,19,20,21,22,23] ?_
                    iterate 8 (refine takeK_cons _ rfl (by kernel_rfl) (yields_value (by kernel_rfl) (by intro w0 hw0; have hw1 := hw0; simp only [SC] at hw1; first | (go_simp; done) | (go_simp; rfl))) ?_; simp only [Act.put, List.getElem_toArray, List.getElem_cons_succ, List.getElem_cons_zero, List.setIfInBounds_toArray, List.set_cons_succ, List.set_cons_zero])
                    refine takeK_nil ?_
                    refine wpAnyK_takes hQp hS [24,28,25,29,26,30,27,31,32,33,34] ?_
                    iterate 11 (refine takeK_cons _ rfl (by kernel_rfl) (yields_value (by kernel_rfl) (by intro w0 hw0; have hw1 := hw0; simp only [SC] at hw1; first | (go_simp; done) | (go_simp; rfl))) ?_; simp only [Act.put, List.getElem_toArray, List.getElem_cons_succ, List.getElem_cons_zero, List.setIfInBounds_toArray, List.set_cons_succ, List.set_cons_zero])
                    refine takeK_nil ?_
                    refine wpAnyK_takes hQp hS [35] ?_
                    iterate 1 (refine takeK_cons _ rfl (by kernel_rfl) (yields_value (by kernel_rfl) (by intro w0 hw0; have hw1 := hw0; simp only [SC] at hw1; first | (go_simp; done) | (go_simp; rfl))) ?_; simp only [Act.put, List.getElem_toArray, List.getElem_cons_succ, List.getElem_cons_zero, List.setIfInBounds_toArray, List.set_cons_succ, List.set_cons_zero])
                    refine takeK_nil ?_
                    refine wpAnyK_done (by kernel_rfl) ?_ _
                    refine hR _ _ ?_
                    iterate 35 apply Exists.intro
                    refine ⟨?_, hb0⟩
                    simp only [puts, Act.put, List.setIfInBounds_toArray, List.set_cons_succ, List.set_cons_zero]
                    rfl
                  rintro a' w8 ⟨v37, v38, v39, v40, v41, v42, v43, v44, v45, v46, v47, v48, v49, v50, v51, v52, v53, v54, v55, v56, v57, v58, v59, v60, v61, v62, v63, v64, v65, v66, v67, v68, v69, v70, v71, rfl, hb8⟩
                  simp only [puts, Act.put, List.setIfInBounds_toArray, List.set_cons_succ, List.set_cons_zero]
                  rename World => w1
                  have h2 := h1.under hb8
                  obtain ⟨r3, r4⟩ := h2.cells
                  have hrl2 := h2.lt
                  have h3 := h2.set 2 (.bool true)
                  simp only [List.setIfInBounds_toArray, List.set_cons_succ, List.set_cons_zero] at h3
                  have hF : Frm (fun k => k ≠ rb) B w (w1.setCell ⟨rb, 2, none⟩ (.bool true)) := (Frm.of (hb.trans (hb8.mono hb.size)) (by omega)).trans (Frm.set (a := ⟨rb, 2, none⟩) (fun h => h rfl) hB _)
                  clear hS0 e1 e2 e3 e4
                  go_wp2
                  go_ret
                  exact ⟨0, p, true, rfl, h3, hF, HBD.out⟩
                case neg =>
                  have e4 : (((s[p]'hps).toNat : Int) == 48) = false := by rw [beq_eq_false_iff_ne]; omega
                  have hgd := HGOOD.out hD0 hD4 (fun e => hz (by have h9 := e.2; rw [hatp] at h9; have := Option.some.inj h9; rw [this]; rfl))
                  rw [← HKD.out] at hgd
                  have HGD := Lib.hid hgd
                  have HMID : Hid ((s.extract p k).data.toList = (s.data.toList.drop p).take D) := Lib.hid (by rw [str_mid, show k - p = D by have := HKD.out; omega])
                  have HSZ : Hid ((s.extract p k).size ≤ 18) := Lib.hid (by rw [← str_len, HMID.out, List.length_take]; omega)
                  clear hD0 hatp hgd
                  --CUTD1
                  refine wp_region_to (SC [(⟨rb, 0, none⟩, (.string s)), (⟨rb, 1, none⟩, (.int .i64 (p : Int)))]) 99 (fun a0 a' w' => ∃ v37 v38 v39 v40 v41 v42 v43 v44 v45 v46 v47 v48 v49 v50 v51 v52 v53 v54 v55 v56 v57 v58 v59 v60 v61 v62 v63 v64 v65 v66 v67 v68 v69 v70 v71, a' = puts a0 [(37, v37), (38, v38), (39, v39), (40, v40), (41, v41), (42, v42), (43, v43), (44, v44), (45, v45), (46, v46), (47, v47), (48, v48), (49, v49), (50, v50), (51, v51), (52, v52), (53, v53), (54, v54), (55, v55), (56, v56), (57, v57), (58, v58), (59, v59), (60, v60), (61, v61), (62, v62), (63, v63), (64, v64), (65, v65), (66, v66), (67, v67), (68, v68), (69, v69), (70, v70), (71, v71), (72, .bool false)] ∧ Below wo.heap.size wo w') (by kernel_rfl) ?_ ?_
                  · intro Q' hR hQp
                    have hb0 : Below wo.heap.size wo wo.drew := by (repeat' (first | with_reducible (first | exact Below.refl _ _ | assumption | refine Below.drew ?_ | refine Below_drewN ?_ _ | refine Below.alloc ?_ ?_ _ | refine Below.setCell ?_ ?_ _) | omega | (simp; done) | (simp; omega)))
                    have hS : SC [(⟨rb, 0, none⟩, (.string s)), (⟨rb, 1, none⟩, (.int .i64 (p : Int)))] wo.drew := hS0
                    generalize wo.drew = wa at *
                    refine wpAnyK_takes hQp hS [0,1,2,3,4,5,6] ?_
                    iterate 7 (refine takeK_cons _ rfl (by kernel_rfl) (yields_value (by kernel_rfl) (by intro w0 hw0; have hw1 := hw0; simp only [SC] at hw1; first | (go_simp; done) | (go_simp; rfl))) ?_; simp only [Act.put, List.getElem_toArray, List.getElem_cons_succ, List.getElem_cons_zero, List.setIfInBounds_toArray, List.set_cons_succ, List.set_cons_zero])
                    refine takeK_nil ?_
                    refine wpAnyK_takes hQp hS [7,8,9,10,11,12,13] ?_
                    iterate 7 (refine takeK_cons _ rfl (by kernel_rfl) (yields_value (by kernel_rfl) (by intro w0 hw0; have hw1 := hw0; simp only [SC] at hw1; first | (go_simp; done) | (go_simp; rfl))) ?_; simp only [Act.put, List.getElem_toArray, List.getElem_cons_succ, List.getElem_cons_zero, List.setIfInBounds_toArray, List.set_cons_succ, List.set_cons_zero])
                    refine takeK_nil ?_
                    refine wpAnyK_takes hQp hS [14,15] ?_
                    iterate 2 (refine takeK_cons _ rfl (by kernel_rfl) (yields_value (by kernel_rfl) (by intro w0 hw0; have hw1 := hw0; simp only [SC] at hw1; first | (go_simp; done) | (go_simp; rfl))) ?_; simp only [Act.put, List.getElem_toArray, List.getElem_cons_succ, List.getElem_cons_zero, List.setIfInBounds_toArray, List.set_cons_succ, List.set_cons_zero])
                    refine takeK_nil ?_
                    refine wpAnyK_takes hQp hS [16,17,18,19,20,21,22,23] ?_
                    iterate 8 (refine takeK_cons _ rfl (by kernel_rfl) (yields_value (by kernel_rfl) (by intro w0 hw0; have hw1 := hw0; simp only [SC] at hw1; first | (go_simp; done) | (go_simp; rfl))) ?_; simp only [Act.put, List.getElem_toArray, List.getElem_cons_succ, List.getElem_cons_zero, List.setIfInBounds_toArray, List.set_cons_succ, List.set_cons_zero])
                    refine takeK_nil ?_
                    refine wpAnyK_takes hQp hS [24,28,25,29,26,30,27,31,32,33,34] ?_
                    iterate 11 (refine takeK_cons _ rfl (by kernel_rfl) (yields_value (by kernel_rfl) (by intro w0 hw0; have hw1 := hw0; simp only [SC] at hw1; first | (go_simp; done) | (go_simp; rfl))) ?_; simp only [Act.put, List.getElem_toArray, List.getElem_cons_succ, List.getElem_cons_zero, List.setIfInBounds_toArray, List.set_cons_succ, List.set_cons_zero])
                    refine takeK_nil ?_
                    refine wpAnyK_takes hQp hS [35] ?_
                    iterate 1 (refine takeK_cons _ rfl (by kernel_rfl) (yields_value (by kernel_rfl) (by intro w0 hw0; have hw1 := hw0; simp only [SC] at hw1; first | (go_simp; done) | (go_simp; rfl))) ?_; simp only [Act.put, List.getElem_toArray, List.getElem_cons_succ, List.getElem_cons_zero, List.setIfInBounds_toArray, List.set_cons_succ, List.set_cons_zero])
                    refine takeK_nil ?_
                    refine wpAnyK_done (by kernel_rfl) ?_ _
                    refine hR _ _ ?_
                    iterate 35 apply Exists.intro
                    refine ⟨?_, hb0⟩
                    simp only [puts, Act.put, List.setIfInBounds_toArray, List.set_cons_succ, List.set_cons_zero]
                    rfl
                  rintro a' w8 ⟨v37, v38, v39, v40, v41, v42, v43, v44, v45, v46, v47, v48, v49, v50, v51, v52, v53, v54, v55, v56, v57, v58, v59, v60, v61, v62, v63, v64, v65, v66, v67, v68, v69, v70, v71, rfl, hb8⟩
                  simp only [puts, Act.put, List.setIfInBounds_toArray, List.set_cons_succ, List.set_cons_zero]
                  rename World => w1
                  have h2 := h1.under hb8
                  have hbw := hb.trans (hb8.mono hb.size)
                  obtain ⟨r3, r4⟩ := h2.cells
                  have hrl2 := h2.lt
                  clear hS0 e1 e2 e3 e4
                  have hS3 : SC [(⟨rb, 0, none⟩, (.string s)), (⟨rb, 1, none⟩, (.int .i64 (p : Int)))] w1 := ⟨h2.cells.1 0, h2.cells.1 1, trivial⟩
                  have hS0 : SC [(⟨rb, 0, none⟩, (.string s)), (⟨rb, 1, none⟩, (.int .i64 (p : Int)))] w1.drew := hS3
                  go_upto_region 7 with fail
                  clear r3 r4
                  have g0 : (0 : Int) ≤ (p : Int) := by omega
                  have g1 : (p : Int) ≤ (k : Int) := by omega
                  have g2 : (k : Int) ≤ (s.size : Int) := by have := HKD.out; omega
                  --CUTF1D
                  refine wp_region_to (SC [(⟨rb, 0, none⟩, (.string s)), (⟨rb, 1, none⟩, (.int .i64 (p : Int)))]) 99 (fun a0 a' w' => ∃ v76 v77 v78 v79 v80 v81 v82 v83 v84 v85 v86 v87 v88 v89, a' = puts a0 [(76, v76), (77, v77), (78, v78), (79, v79), (80, v80), (81, v81), (82, v82), (83, v83), (84, v84), (85, v85), (86, v86), (87, v87), (88, v88), (89, v89), (4, .int .i64 ((decVal ((s.data.toList.drop p).take D) : Nat) : Int)), (5, .nilIface)] ∧ Below w1.heap.size w1 w') (by kernel_rfl) ?_ ?_
                  · intro Q' hR hQp
                    have hb0 : Below w1.heap.size w1 w1.drew := by (repeat' (first | with_reducible (first | exact Below.refl _ _ | assumption | refine Below.drew ?_ | refine Below_drewN ?_ _ | refine Below.alloc ?_ ?_ _ | refine Below.setCell ?_ ?_ _) | omega | (simp; done) | (simp; omega)))
                    have hS : SC [(⟨rb, 0, none⟩, (.string s)), (⟨rb, 1, none⟩, (.int .i64 (p : Int)))] w1.drew := hS0
                    generalize w1.drew = wa at *
                    refine wpAnyK_takes hQp hS [0,4,8,1,5,2,6,3,7,9] ?_
                    iterate 10 (refine takeK_cons _ rfl (by kernel_rfl) (yields_value (by kernel_rfl) (by intro w0 hw0; have hw1 := hw0; simp only [SC] at hw1; first | (go_simp; done) | (go_simp; rfl))) ?_; simp only [Act.put, List.getElem_toArray, List.getElem_cons_succ, List.getElem_cons_zero, List.setIfInBounds_toArray, List.set_cons_succ, List.set_cons_zero])
                    refine takeK_nil ?_
                    --CUTG1D
                    clear hS
                    refine wpAnyK_call (i := 10) rfl (by kernel_rfl) (by kernel_rfl) fun K10 hK10 => ?_
                    go_simp
                    go_wp2_with fail
                    --CUTH1D
                    refine (Tryd.strconv_Atoi (s.extract p k) _ HSZ.out (by rw [HMID.out]; exact HGD.out.2) _).mono ?_
                    rintro e wb ⟨rfl, tt, rfl⟩
                    have hbx := Lib.bytesWorld_below wa 5 tt
                    have hbz := hb0.trans (hbx.mono hb0.size)
                    go_wp2_with fail
                    have hS : _ := SC.later hbz hS3
                    refine hK10 _ _ (fun _ => hS) ?_
                    clear hK10
                    refine wpAnyK_takes hQp hS [11,12,13,14,15] ?_
                    iterate 5 (refine takeK_cons _ rfl (by kernel_rfl) (yields_value (by kernel_rfl) (by intro w0 hw0; have hw1 := hw0; simp only [SC] at hw1; first | (go_simp; done) | (go_simp; rfl))) ?_; simp only [Act.put, List.getElem_toArray, List.getElem_cons_succ, List.getElem_cons_zero, List.setIfInBounds_toArray, List.set_cons_succ, List.set_cons_zero])
                    refine takeK_nil ?_
                    refine wpAnyK_done (by kernel_rfl) ?_ _
                    refine hR _ _ ?_
                    iterate 14 apply Exists.intro
                    refine ⟨?_, hbz⟩
                    simp only [puts, Act.put, List.setIfInBounds_toArray, List.set_cons_succ, List.set_cons_zero]
                    rfl
                  rintro a' w8 ⟨v76, v77, v78, v79, v80, v81, v82, v83, v84, v85, v86, v87, v88, v89, rfl, hb8⟩
                  simp only [puts, Act.put, List.setIfInBounds_toArray, List.set_cons_succ, List.set_cons_zero]
                  rename World => w2
                  have h4 := h2.under hb8
                  obtain ⟨r3, r4⟩ := h4.cells
                  have hrl4 := h4.lt
                  have h5 := h4.set 1 (.int .i64 (k : Int))
                  simp only [List.setIfInBounds_toArray, List.set_cons_succ, List.set_cons_zero] at h5
                  have hF : Frm (fun k => k ≠ rb) B w (w2.setCell ⟨rb, 1, none⟩ (.int .i64 (k : Int))) := (Frm.of (hbw.trans (hb8.mono hbw.size)) (by omega)).trans (Frm.set (a := ⟨rb, 1, none⟩) (fun h => h rfl) hB _)
                  clear hS0 hS3
                  go_wp2
                  go_ret
                  exact ⟨_, k, false, rfl, h5, hF, HGD.out.1⟩
              case neg =>
                have e3 : ¬ (p : Int) + 1 < (k : Int) := by have := HKD.out; omega
                have hgd := HGOOD.out hD0 hD4 (fun e => hD1 e.1)
                rw [← HKD.out] at hgd
                have HGD := Lib.hid hgd
                have HMID : Hid ((s.extract p k).data.toList = (s.data.toList.drop p).take D) := Lib.hid (by rw [str_mid, show k - p = D by have := HKD.out; omega])
                have HSZ : Hid ((s.extract p k).size ≤ 18) := Lib.hid (by rw [← str_len, HMID.out, List.length_take]; omega)
                clear hD0 hgd
                --CUTE1
                refine wp_region_to (SC [(⟨rb, 0, none⟩, (.string s)), (⟨rb, 1, none⟩, (.int .i64 (p : Int)))]) 99 (fun a0 a' w' => ∃ v37 v38 v39 v40 v41 v42 v43 v44 v45 v46 v47 v48 v49 v50 v51 v52 v53 v54 v55 v56 v57 v58 v59 v60 v61 v62 v63 v64 v65 v66 v67 v68 v69 v70 v71, a' = puts a0 [(37, v37), (38, v38), (39, v39), (40, v40), (41, v41), (42, v42), (43, v43), (44, v44), (45, v45), (46, v46), (47, v47), (48, v48), (49, v49), (50, v50), (51, v51), (52, v52), (53, v53), (54, v54), (55, v55), (56, v56), (57, v57), (58, v58), (59, v59), (60, v60), (61, v61), (62, v62), (63, v63), (64, v64), (65, v65), (66, v66), (67, v67), (68, v68), (69, v69), (70, v70), (71, v71), (72, .bool false)] ∧ Below wo.heap.size wo w') (by kernel_rfl) ?_ ?_
                · intro Q' hR hQp
                  have hb0 : Below wo.heap.size wo wo.drew := by (repeat' (first | with_reducible (first | exact Below.refl _ _ | assumption | refine Below.drew ?_ | refine Below_drewN ?_ _ | refine Below.alloc ?_ ?_ _ | refine Below.setCell ?_ ?_ _) | omega | (simp; done) | (simp; omega)))
                  have hS : SC [(⟨rb, 0, none⟩, (.string s)), (⟨rb, 1, none⟩, (.int .i64 (p : Int)))] wo.drew := hS0
                  generalize wo.drew = wa at *
                  refine wpAnyK_takes hQp hS [0,1,2,3,4,5,6] ?_
                  iterate 7 (refine takeK_cons _ rfl (by kernel_rfl) (yields_value (by kernel_rfl) (by intro w0 hw0; have hw1 := hw0; simp only [SC] at hw1; first | (go_simp; done) | (go_simp; rfl))) ?_; simp only [Act.put, List.getElem_toArray, List.getElem_cons_succ, List.getElem_cons_zero, List.setIfInBounds_toArray, List.set_cons_succ, List.set_cons_zero])
                  refine takeK_nil ?_
                  refine wpAnyK_takes hQp hS [7,8,9,10,11,12,13] ?_
                  iterate 7 (refine takeK_cons _ rfl (by kernel_rfl) (yields_value (by kernel_rfl) (by intro w0 hw0; have hw1 := hw0; simp only [SC] at hw1; first | (go_simp; done) | (go_simp; rfl))) ?_; simp only [Act.put, List.getElem_toArray, List.getElem_cons_succ, List.getElem_cons_zero, List.setIfInBounds_toArray, List.set_cons_succ, List.set_cons_zero])
                  refine takeK_nil ?_
                  refine wpAnyK_takes hQp hS [14,15] ?_
                  iterate 2 (refine takeK_cons _ rfl (by kernel_rfl) (yields_value (by kernel_rfl) (by intro w0 hw0; have hw1 := hw0; simp only [SC] at hw1; first | (go_simp; done) | (go_simp; rfl))) ?_; simp only [Act.put, List.getElem_toArray, List.getElem_cons_succ, List.getElem_cons_zero, List.setIfInBounds_toArray, List.set_cons_succ, List.set_cons_zero])
                  refine takeK_nil ?_
                  refine wpAnyK_takes hQp hS [16,17,18,19,20,21,22,23] ?_
                  iterate 8 (refine takeK_cons _ rfl (by kernel_rfl) (yields_value (by kernel_rfl) (by intro w0 hw0; have hw1 := hw0; simp only [SC] at hw1; first | (go_simp; done) | (go_simp; rfl))) ?_; simp only [Act.put, List.getElem_toArray, List.getElem_cons_succ, List.getElem_cons_zero, List.setIfInBounds_toArray, List.set_cons_succ, List.set_cons_zero])
                  refine takeK_nil ?_
                  refine wpAnyK_take' (i := 24) undef rfl (by kernel_rfl) (fun _ _ _ h => hQp _ _ _ _ h) hS (.inr ⟨by kernel_rfl, rfl⟩) ?_; simp only [Act.put, List.getElem_toArray, List.getElem_cons_succ, List.getElem_cons_zero, List.setIfInBounds_toArray, List.set_cons_succ, List.set_cons_zero]
                  refine wpAnyK_take' (i := 28) undef rfl (by kernel_rfl) (fun _ _ _ h => hQp _ _ _ _ h) hS (.inr ⟨by kernel_rfl, rfl⟩) ?_; simp only [Act.put, List.getElem_toArray, List.getElem_cons_succ, List.getElem_cons_zero, List.setIfInBounds_toArray, List.set_cons_succ, List.set_cons_zero]
                  refine wpAnyK_take' (i := 25) undef rfl (by kernel_rfl) (fun _ _ _ h => hQp _ _ _ _ h) hS (.inr ⟨by kernel_rfl, rfl⟩) ?_; simp only [Act.put, List.getElem_toArray, List.getElem_cons_succ, List.getElem_cons_zero, List.setIfInBounds_toArray, List.set_cons_succ, List.set_cons_zero]
                  refine wpAnyK_take' (i := 29) undef rfl (by kernel_rfl) (fun _ _ _ h => hQp _ _ _ _ h) hS (.inr ⟨by kernel_rfl, rfl⟩) ?_; simp only [Act.put, List.getElem_toArray, List.getElem_cons_succ, List.getElem_cons_zero, List.setIfInBounds_toArray, List.set_cons_succ, List.set_cons_zero]
                  refine wpAnyK_take' (i := 26) undef rfl (by kernel_rfl) (fun _ _ _ h => hQp _ _ _ _ h) hS (.inr ⟨by kernel_rfl, rfl⟩) ?_; simp only [Act.put, List.getElem_toArray, List.getElem_cons_succ, List.getElem_cons_zero, List.setIfInBounds_toArray, List.set_cons_succ, List.set_cons_zero]
                  refine wpAnyK_take' (i := 30) undef rfl (by kernel_rfl) (fun _ _ _ h => hQp _ _ _ _ h) hS (.inr ⟨by kernel_rfl, rfl⟩) ?_; simp only [Act.put, List.getElem_toArray, List.getElem_cons_succ, List.getElem_cons_zero, List.setIfInBounds_toArray, List.set_cons_succ, List.set_cons_zero]
                  refine wpAnyK_take' (i := 27) undef rfl (by kernel_rfl) (fun _ _ _ h => hQp _ _ _ _ h) hS (.inr ⟨by kernel_rfl, rfl⟩) ?_; simp only [Act.put, List.getElem_toArray, List.getElem_cons_succ, List.getElem_cons_zero, List.setIfInBounds_toArray, List.set_cons_succ, List.set_cons_zero]
                  refine wpAnyK_take' (i := 31) undef rfl (by kernel_rfl) (fun _ _ _ h => hQp _ _ _ _ h) hS (.inr ⟨by kernel_rfl, rfl⟩) ?_; simp only [Act.put, List.getElem_toArray, List.getElem_cons_succ, List.getElem_cons_zero, List.setIfInBounds_toArray, List.set_cons_succ, List.set_cons_zero]
                  refine wpAnyK_take' (i := 32) undef rfl (by kernel_rfl) (fun _ _ _ h => hQp _ _ _ _ h) hS (.inr ⟨by kernel_rfl, rfl⟩) ?_; simp only [Act.put, List.getElem_toArray, List.getElem_cons_succ, List.getElem_cons_zero, List.setIfInBounds_toArray, List.set_cons_succ, List.set_cons_zero]
                  refine wpAnyK_take' (i := 33) undef rfl (by kernel_rfl) (fun _ _ _ h => hQp _ _ _ _ h) hS (.inr ⟨by kernel_rfl, rfl⟩) ?_; simp only [Act.put, List.getElem_toArray, List.getElem_cons_succ, List.getElem_cons_zero, List.setIfInBounds_toArray, List.set_cons_succ, List.set_cons_zero]
                  refine wpAnyK_takes hQp hS [34] ?_
                  iterate 1 (refine takeK_cons _ rfl (by kernel_rfl) (yields_value (by kernel_rfl) (by intro w0 hw0; have hw1 := hw0; simp only [SC] at hw1; first | (go_simp; done) | (go_simp; rfl))) ?_; simp only [Act.put, List.getElem_toArray, List.getElem_cons_succ, List.getElem_cons_zero, List.setIfInBounds_toArray, List.set_cons_succ, List.set_cons_zero])
                  refine takeK_nil ?_
                  refine wpAnyK_takes hQp hS [35] ?_
                  iterate 1 (refine takeK_cons _ rfl (by kernel_rfl) (yields_value (by kernel_rfl) (by intro w0 hw0; have hw1 := hw0; simp only [SC] at hw1; first | (go_simp; done) | (go_simp; rfl))) ?_; simp only [Act.put, List.getElem_toArray, List.getElem_cons_succ, List.getElem_cons_zero, List.setIfInBounds_toArray, List.set_cons_succ, List.set_cons_zero])
                  refine takeK_nil ?_
                  refine wpAnyK_done (by kernel_rfl) ?_ _
                  refine hR _ _ ?_
                  iterate 35 apply Exists.intro
                  refine ⟨?_, hb0⟩
                  simp only [puts, Act.put, List.setIfInBounds_toArray, List.set_cons_succ, List.set_cons_zero]
                  rfl
                rintro a' w8 ⟨v37, v38, v39, v40, v41, v42, v43, v44, v45, v46, v47, v48, v49, v50, v51, v52, v53, v54, v55, v56, v57, v58, v59, v60, v61, v62, v63, v64, v65, v66, v67, v68, v69, v70, v71, rfl, hb8⟩
                simp only [puts, Act.put, List.setIfInBounds_toArray, List.set_cons_succ, List.set_cons_zero]
                rename World => w1
                have h2 := h1.under hb8
                have hbw := hb.trans (hb8.mono hb.size)
                obtain ⟨r3, r4⟩ := h2.cells
                have hrl2 := h2.lt
                clear hS0 e1 e2 e3
                have hS3 : SC [(⟨rb, 0, none⟩, (.string s)), (⟨rb, 1, none⟩, (.int .i64 (p : Int)))] w1 := ⟨h2.cells.1 0, h2.cells.1 1, trivial⟩
                have hS0 : SC [(⟨rb, 0, none⟩, (.string s)), (⟨rb, 1, none⟩, (.int .i64 (p : Int)))] w1.drew := hS3
                go_upto_region 7 with fail
                clear r3 r4
                have g0 : (0 : Int) ≤ (p : Int) := by omega
                have g1 : (p : Int) ≤ (k : Int) := by omega
                have g2 : (k : Int) ≤ (s.size : Int) := by have := HKD.out; omega
                --CUTF1E
                refine wp_region_to (SC [(⟨rb, 0, none⟩, (.string s)), (⟨rb, 1, none⟩, (.int .i64 (p : Int)))]) 99 (fun a0 a' w' => ∃ v76 v77 v78 v79 v80 v81 v82 v83 v84 v85 v86 v87 v88 v89, a' = puts a0 [(76, v76), (77, v77), (78, v78), (79, v79), (80, v80), (81, v81), (82, v82), (83, v83), (84, v84), (85, v85), (86, v86), (87, v87), (88, v88), (89, v89), (4, .int .i64 ((decVal ((s.data.toList.drop p).take D) : Nat) : Int)), (5, .nilIface)] ∧ Below w1.heap.size w1 w') (by kernel_rfl) ?_ ?_
                · intro Q' hR hQp
                  have hb0 : Below w1.heap.size w1 w1.drew := by (repeat' (first | with_reducible (first | exact Below.refl _ _ | assumption | refine Below.drew ?_ | refine Below_drewN ?_ _ | refine Below.alloc ?_ ?_ _ | refine Below.setCell ?_ ?_ _) | omega | (simp; done) | (simp; omega)))
                  have hS : SC [(⟨rb, 0, none⟩, (.string s)), (⟨rb, 1, none⟩, (.int .i64 (p : Int)))] w1.drew := hS0
                  generalize w1.drew = wa at *
                  refine wpAnyK_takes hQp hS [0,4,8,1,5,2,6,3,7,9] ?_
                  iterate 10 (refine takeK_cons _ rfl (by kernel_rfl) (yields_value (by kernel_rfl) (by intro w0 hw0; have hw1 := hw0; simp only [SC] at hw1; first | (go_simp; done) | (go_simp; rfl))) ?_; simp only [Act.put, List.getElem_toArray, List.getElem_cons_succ, List.getElem_cons_zero, List.setIfInBounds_toArray, List.set_cons_succ, List.set_cons_zero])
                  refine takeK_nil ?_
                  --CUTG1E
                  clear hS
                  refine wpAnyK_call (i := 10) rfl (by kernel_rfl) (by kernel_rfl) fun K10 hK10 => ?_
                  go_simp
                  go_wp2_with fail
                  --CUTH1E
                  refine (Tryd.strconv_Atoi (s.extract p k) _ HSZ.out (by rw [HMID.out]; exact HGD.out.2) _).mono ?_
                  rintro e wb ⟨rfl, tt, rfl⟩
                  have hbx := Lib.bytesWorld_below wa 5 tt
                  have hbz := hb0.trans (hbx.mono hb0.size)
                  go_wp2_with fail
                  have hS : _ := SC.later hbz hS3
                  refine hK10 _ _ (fun _ => hS) ?_
                  clear hK10
                  refine wpAnyK_takes hQp hS [11,12,13,14,15] ?_
                  iterate 5 (refine takeK_cons _ rfl (by kernel_rfl) (yields_value (by kernel_rfl) (by intro w0 hw0; have hw1 := hw0; simp only [SC] at hw1; first | (go_simp; done) | (go_simp; rfl))) ?_; simp only [Act.put, List.getElem_toArray, List.getElem_cons_succ, List.getElem_cons_zero, List.setIfInBounds_toArray, List.set_cons_succ, List.set_cons_zero])
                  refine takeK_nil ?_
                  refine wpAnyK_done (by kernel_rfl) ?_ _
                  refine hR _ _ ?_
                  iterate 14 apply Exists.intro
                  refine ⟨?_, hbz⟩
                  simp only [puts, Act.put, List.setIfInBounds_toArray, List.set_cons_succ, List.set_cons_zero]
                  rfl
                rintro a' w8 ⟨v76, v77, v78, v79, v80, v81, v82, v83, v84, v85, v86, v87, v88, v89, rfl, hb8⟩
                simp only [puts, Act.put, List.setIfInBounds_toArray, List.set_cons_succ, List.set_cons_zero]
                rename World => w2
                have h4 := h2.under hb8
                obtain ⟨r3, r4⟩ := h4.cells
                have hrl4 := h4.lt
                have h5 := h4.set 1 (.int .i64 (k : Int))
                simp only [List.setIfInBounds_toArray, List.set_cons_succ, List.set_cons_zero] at h5
                have hF : Frm (fun k => k ≠ rb) B w (w2.setCell ⟨rb, 1, none⟩ (.int .i64 (k : Int))) := (Frm.of (hbw.trans (hb8.mono hbw.size)) (by omega)).trans (Frm.set (a := ⟨rb, 1, none⟩) (fun h => h rfl) hB _)
                clear hS0 hS3
                go_wp2
                go_ret
                exact ⟨_, k, false, rfl, h5, hF, HGD.out.1⟩
      case neg =>
        have d1 : ¬ (48 : Int) ≤ ((s[k]'hlt).toNat : Int) := by omega
        have HK := Lib.hid (HGO.out.2 (by rw [HG9.out, decide_eq_false h48]; simp))
        go_wp2
        have hkd : k = p + D := by have := HK.out; omega
        have HKD := Lib.hid hkd
        have hS1 : SC [(⟨rb, 0, none⟩, (.string s)), (⟨rb, 1, none⟩, (.int .i64 (p : Int)))] wo := ⟨h1.cells.1 0, h1.cells.1 1, trivial⟩
        have hS0 : SC [(⟨rb, 0, none⟩, (.string s)), (⟨rb, 1, none⟩, (.int .i64 (p : Int)))] wo.drew := hS1
        have hw4 : IntKind.i64.wrap ((p : Int) + 4) = (p : Int) + 4 := IntWalk.i64_in _ (by omega)
        have hw1 : IntKind.i64.wrap ((p : Int) + 1) = (p : Int) + 1 := IntWalk.i64_in _ (by omega)
        clear r1 r2 hkd
        by_cases hD0 : D = 0
        case pos =>
          have e1 : ((k : Int) == (p : Int)) = true := by rw [beq_iff_eq]; have := HKD.out; omega
          have HBD := Lib.hid (HBAD.out (.inl hD0))
          clear hD0
          --CUTA2
          refine wp_region_to (SC [(⟨rb, 0, none⟩, (.string s)), (⟨rb, 1, none⟩, (.int .i64 (p : Int)))]) 99 (fun a0 a' w' => ∃ v37 v38 v39 v40 v41 v42 v43 v44 v45 v46 v47 v48 v49 v50 v51 v52 v53 v54 v55 v56 v57 v58 v59 v60 v61 v62 v63 v64 v65 v66 v67 v68 v69 v70 v71, a' = puts a0 [(37, v37), (38, v38), (39, v39), (40, v40), (41, v41), (42, v42), (43, v43), (44, v44), (45, v45), (46, v46), (47, v47), (48, v48), (49, v49), (50, v50), (51, v51), (52, v52), (53, v53), (54, v54), (55, v55), (56, v56), (57, v57), (58, v58), (59, v59), (60, v60), (61, v61), (62, v62), (63, v63), (64, v64), (65, v65), (66, v66), (67, v67), (68, v68), (69, v69), (70, v70), (71, v71), (72, .bool true)] ∧ Below wo.heap.size wo w') (by kernel_rfl) ?_ ?_
          · intro Q' hR hQp
            have hb0 : Below wo.heap.size wo wo.drew := by (repeat' (first | with_reducible (first | exact Below.refl _ _ | assumption | refine Below.drew ?_ | refine Below_drewN ?_ _ | refine Below.alloc ?_ ?_ _ | refine Below.setCell ?_ ?_ _) | omega | (simp; done) | (simp; omega)))
            have hS : SC [(⟨rb, 0, none⟩, (.string s)), (⟨rb, 1, none⟩, (.int .i64 (p : Int)))] wo.drew := hS0
            generalize wo.drew = wa at *
            refine wpAnyK_takes hQp hS [0,1,2,3,4,5,6] ?_
            iterate 7 (refine takeK_cons _ rfl (by kernel_rfl) (yields_value (by kernel_rfl) (by intro w0 hw0; have hw1 := hw0; simp only [SC] at hw1; first | (go_simp; done) | (go_simp; rfl))) ?_; simp only [Act.put, List.getElem_toArray, List.getElem_cons_succ, List.getElem_cons_zero, List.setIfInBounds_toArray, List.set_cons_succ, List.set_cons_zero])
            refine takeK_nil ?_
            refine wpAnyK_take' (i := 7) undef rfl (by kernel_rfl) (fun _ _ _ h => hQp _ _ _ _ h) hS (.inr ⟨by kernel_rfl, rfl⟩) ?_; simp only [Act.put, List.getElem_toArray, List.getElem_cons_succ, List.getElem_cons_zero, List.setIfInBounds_toArray, List.set_cons_succ, List.set_cons_zero]
            refine wpAnyK_take' (i := 8) undef rfl (by kernel_rfl) (fun _ _ _ h => hQp _ _ _ _ h) hS (.inr ⟨by kernel_rfl, rfl⟩) ?_; simp only [Act.put, List.getElem_toArray, List.getElem_cons_succ, List.getElem_cons_zero, List.setIfInBounds_toArray, List.set_cons_succ, List.set_cons_zero]
            refine wpAnyK_take' (i := 9) undef rfl (by kernel_rfl) (fun _ _ _ h => hQp _ _ _ _ h) hS (.inr ⟨by kernel_rfl, rfl⟩) ?_; simp only [Act.put, List.getElem_toArray, List.getElem_cons_succ, List.getElem_cons_zero, List.setIfInBounds_toArray, List.set_cons_succ, List.set_cons_zero]
            refine wpAnyK_take' (i := 10) undef rfl (by kernel_rfl) (fun _ _ _ h => hQp _ _ _ _ h) hS (.inr ⟨by kernel_rfl, rfl⟩) ?_; simp only [Act.put, List.getElem_toArray, List.getElem_cons_succ, List.getElem_cons_zero, List.setIfInBounds_toArray, List.set_cons_succ, List.set_cons_zero]
            refine wpAnyK_take' (i := 11) undef rfl (by kernel_rfl) (fun _ _ _ h => hQp _ _ _ _ h) hS (.inr ⟨by kernel_rfl, rfl⟩) ?_; simp only [Act.put, List.getElem_toArray, List.getElem_cons_succ, List.getElem_cons_zero, List.setIfInBounds_toArray, List.set_cons_succ, List.set_cons_zero]
            refine wpAnyK_take' (i := 12) undef rfl (by kernel_rfl) (fun _ _ _ h => hQp _ _ _ _ h) hS (.inr ⟨by kernel_rfl, rfl⟩) ?_; simp only [Act.put, List.getElem_toArray, List.getElem_cons_succ, List.getElem_cons_zero, List.setIfInBounds_toArray, List.set_cons_succ, List.set_cons_zero]
            refine wpAnyK_take' (i := 13) undef rfl (by kernel_rfl) (fun _ _ _ h => hQp _ _ _ _ h) hS (.inr ⟨by kernel_rfl, rfl⟩) ?_; simp only [Act.put, List.getElem_toArray, List.getElem_cons_succ, List.getElem_cons_zero, List.setIfInBounds_toArray, List.set_cons_succ, List.set_cons_zero]
            refine wpAnyK_takes hQp hS [14,15] ?_
            iterate 2 (refine takeK_cons _ rfl (by kernel_rfl) (yields_value (by kernel_rfl) (by intro w0 hw0; have hw1 := hw0; simp only [SC] at hw1; first | (go_simp; done) | (go_simp; rfl))) ?_; simp only [Act.put, List.getElem_toArray, List.getElem_cons_succ, List.getElem_cons_zero, List.setIfInBounds_toArray, List.set_cons_succ, List.set_cons_zero])
            refine takeK_nil ?_
            refine wpAnyK_take' (i := 16) undef rfl (by kernel_rfl) (fun _ _ _ h => hQp _ _ _ _ h) hS (.inr ⟨by kernel_rfl, rfl⟩) ?_; simp only [Act.put, List.getElem_toArray, List.getElem_cons_succ, List.getElem_cons_zero, List.setIfInBounds_toArray, List.set_cons_succ, List.set_cons_zero]
            refine wpAnyK_take' (i := 17) undef rfl (by kernel_rfl) (fun _ _ _ h => hQp _ _ _ _ h) hS (.inr ⟨by kernel_rfl, rfl⟩) ?_; simp only [Act.put, List.getElem_toArray, List.getElem_cons_succ, List.getElem_cons_zero, List.setIfInBounds_toArray, List.set_cons_succ, List.set_cons_zero]
            refine wpAnyK_take' (i := 18) undef rfl (by kernel_rfl) (fun _ _ _ h => hQp _ _ _ _ h) hS (.inr ⟨by kernel_rfl, rfl⟩) ?_; simp only [Act.put, List.getElem_toArray, List.getElem_cons_succ, List.getElem_cons_zero, List.setIfInBounds_toArray, List.set_cons_succ, List.set_cons_zero]
            refine wpAnyK_take' (i := 19) undef rfl (by kernel_rfl) (fun _ _ _ h => hQp _ _ _ _ h) hS (.inr ⟨by kernel_rfl, rfl⟩) ?_; simp only [Act.put, List.getElem_toArray, List.getElem_cons_succ, List.getElem_cons_zero, List.setIfInBounds_toArray, List.set_cons_succ, List.set_cons_zero]
            refine wpAnyK_take' (i := 20) undef rfl (by kernel_rfl) (fun _ _ _ h => hQp _ _ _ _ h) hS (.inr ⟨by kernel_rfl, rfl⟩) ?_; simp only [Act.put, List.getElem_toArray, List.getElem_cons_succ, List.getElem_cons_zero, List.setIfInBounds_toArray, List.set_cons_succ, List.set_cons_zero]
            refine wpAnyK_take' (i := 21) undef rfl (by kernel_rfl) (fun _ _ _ h => hQp _ _ _ _ h) hS (.inr ⟨by kernel_rfl, rfl⟩) ?_; simp only [Act.put, List.getElem_toArray, List.getElem_cons_succ, List.getElem_cons_zero, List.setIfInBounds_toArray, List.set_cons_succ, List.set_cons_zero]
            refine wpAnyK_take' (i := 22) undef rfl (by kernel_rfl) (fun _ _ _ h => hQp _ _ _ _ h) hS (.inr ⟨by kernel_rfl, rfl⟩) ?_; simp only [Act.put, List.getElem_toArray, List.getElem_cons_succ, List.getElem_cons_zero, List.setIfInBounds_toArray, List.set_cons_succ, List.set_cons_zero]
            refine wpAnyK_take' (i := 23) undef rfl (by kernel_rfl) (fun _ _ _ h => hQp _ _ _ _ h) hS (.inr ⟨by kernel_rfl, rfl⟩) ?_; simp only [Act.put, List.getElem_toArray, List.getElem_cons_succ, List.getElem_cons_zero, List.setIfInBounds_toArray, List.set_cons_succ, List.set_cons_zero]
            refine wpAnyK_take' (i := 24) undef rfl (by kernel_rfl) (fun _ _ _ h => hQp _ _ _ _ h) hS (.inr ⟨by kernel_rfl, rfl⟩) ?_; simp only [Act.put, List.getElem_toArray, List.getElem_cons_succ, List.getElem_cons_zero, List.setIfInBounds_toArray, List.set_cons_succ, List.set_cons_zero]
            refine wpAnyK_take' (i := 28) undef rfl (by kernel_rfl) (fun _ _ _ h => hQp _ _ _ _ h) hS (.inr ⟨by kernel_rfl, rfl⟩) ?_; simp only [Act.put, List.getElem_toArray, List.getElem_cons_succ, List.getElem_cons_zero, List.setIfInBounds_toArray, List.set_cons_succ, List.set_cons_zero]
            refine wpAnyK_take' (i := 25) undef rfl (by kernel_rfl) (fun _ _ _ h => hQp _ _ _ _ h) hS (.inr ⟨by kernel_rfl, rfl⟩) ?_; simp only [Act.put, List.getElem_toArray, List.getElem_cons_succ, List.getElem_cons_zero, List.setIfInBounds_toArray, List.set_cons_succ, List.set_cons_zero]
            refine wpAnyK_take' (i := 29) undef rfl (by kernel_rfl) (fun _ _ _ h => hQp _ _ _ _ h) hS (.inr ⟨by kernel_rfl, rfl⟩) ?_; simp only [Act.put, List.getElem_toArray, List.getElem_cons_succ, List.getElem_cons_zero, List.setIfInBounds_toArray, List.set_cons_succ, List.set_cons_zero]
            refine wpAnyK_take' (i := 26) undef rfl (by kernel_rfl) (fun _ _ _ h => hQp _ _ _ _ h) hS (.inr ⟨by kernel_rfl, rfl⟩) ?_; simp only [Act.put, List.getElem_toArray, List.getElem_cons_succ, List.getElem_cons_zero, List.setIfInBounds_toArray, List.set_cons_succ, List.set_cons_zero]
            refine wpAnyK_take' (i := 30) undef rfl (by kernel_rfl) (fun _ _ _ h => hQp _ _ _ _ h) hS (.inr ⟨by kernel_rfl, rfl⟩) ?_; simp only [Act.put, List.getElem_toArray, List.getElem_cons_succ, List.getElem_cons_zero, List.setIfInBounds_toArray, List.set_cons_succ, List.set_cons_zero]
            refine wpAnyK_take' (i := 27) undef rfl (by kernel_rfl) (fun _ _ _ h => hQp _ _ _ _ h) hS (.inr ⟨by kernel_rfl, rfl⟩) ?_; simp only [Act.put, List.getElem_toArray, List.getElem_cons_succ, List.getElem_cons_zero, List.setIfInBounds_toArray, List.set_cons_succ, List.set_cons_zero]
            refine wpAnyK_take' (i := 31) undef rfl (by kernel_rfl) (fun _ _ _ h => hQp _ _ _ _ h) hS (.inr ⟨by kernel_rfl, rfl⟩) ?_; simp only [Act.put, List.getElem_toArray, List.getElem_cons_succ, List.getElem_cons_zero, List.setIfInBounds_toArray, List.set_cons_succ, List.set_cons_zero]
            refine wpAnyK_take' (i := 32) undef rfl (by kernel_rfl) (fun _ _ _ h => hQp _ _ _ _ h) hS (.inr ⟨by kernel_rfl, rfl⟩) ?_; simp only [Act.put, List.getElem_toArray, List.getElem_cons_succ, List.getElem_cons_zero, List.setIfInBounds_toArray, List.set_cons_succ, List.set_cons_zero]
            refine wpAnyK_take' (i := 33) undef rfl (by kernel_rfl) (fun _ _ _ h => hQp _ _ _ _ h) hS (.inr ⟨by kernel_rfl, rfl⟩) ?_; simp only [Act.put, List.getElem_toArray, List.getElem_cons_succ, List.getElem_cons_zero, List.setIfInBounds_toArray, List.set_cons_succ, List.set_cons_zero]
            refine wpAnyK_take' (i := 34) undef rfl (by kernel_rfl) (fun _ _ _ h => hQp _ _ _ _ h) hS (.inr ⟨by kernel_rfl, rfl⟩) ?_; simp only [Act.put, List.getElem_toArray, List.getElem_cons_succ, List.getElem_cons_zero, List.setIfInBounds_toArray, List.set_cons_succ, List.set_cons_zero]
            refine wpAnyK_takes hQp hS [35] ?_
            iterate 1 (refine takeK_cons _ rfl (by kernel_rfl) (yields_value (by kernel_rfl) (by intro w0 hw0; have hw1 := hw0; simp only [SC] at hw1; first | (go_simp; done) | (go_simp; rfl))) ?_; simp only [Act.put, List.getElem_toArray, List.getElem_cons_succ, List.getElem_cons_zero, List.setIfInBounds_toArray, List.set_cons_succ, List.set_cons_zero])
            refine takeK_nil ?_
            refine wpAnyK_done (by kernel_rfl) ?_ _
            refine hR _ _ ?_
            iterate 35 apply Exists.intro
            refine ⟨?_, hb0⟩
            simp only [puts, Act.put, List.setIfInBounds_toArray, List.set_cons_succ, List.set_cons_zero]
            rfl
          rintro a' w8 ⟨v37, v38, v39, v40, v41, v42, v43, v44, v45, v46, v47, v48, v49, v50, v51, v52, v53, v54, v55, v56, v57, v58, v59, v60, v61, v62, v63, v64, v65, v66, v67, v68, v69, v70, v71, rfl, hb8⟩
          simp only [puts, Act.put, List.setIfInBounds_toArray, List.set_cons_succ, List.set_cons_zero]
          rename World => w1
          have h2 := h1.under hb8
          obtain ⟨r3, r4⟩ := h2.cells
          have hrl2 := h2.lt
          have h3 := h2.set 2 (.bool true)
          simp only [List.setIfInBounds_toArray, List.set_cons_succ, List.set_cons_zero] at h3
          have hF : Frm (fun k => k ≠ rb) B w (w1.setCell ⟨rb, 2, none⟩ (.bool true)) := (Frm.of (hb.trans (hb8.mono hb.size)) (by omega)).trans (Frm.set (a := ⟨rb, 2, none⟩) (fun h => h rfl) hB _)
          clear hS0 e1
          go_wp2
          go_ret
          exact ⟨0, p, true, rfl, h3, hF, HBD.out⟩
        case neg =>
          have e1 : ((k : Int) == (p : Int)) = false := by rw [beq_eq_false_iff_ne]; have := HKD.out; omega
          by_cases hD4 : 4 < D
          case pos =>
            have e2 : (p : Int) + 4 < (k : Int) := by have := HKD.out; omega
            have HBD := Lib.hid (HBAD.out (.inr (.inl hD4)))
            clear hD0
            --CUTB2
            refine wp_region_to (SC [(⟨rb, 0, none⟩, (.string s)), (⟨rb, 1, none⟩, (.int .i64 (p : Int)))]) 99 (fun a0 a' w' => ∃ v37 v38 v39 v40 v41 v42 v43 v44 v45 v46 v47 v48 v49 v50 v51 v52 v53 v54 v55 v56 v57 v58 v59 v60 v61 v62 v63 v64 v65 v66 v67 v68 v69 v70 v71, a' = puts a0 [(37, v37), (38, v38), (39, v39), (40, v40), (41, v41), (42, v42), (43, v43), (44, v44), (45, v45), (46, v46), (47, v47), (48, v48), (49, v49), (50, v50), (51, v51), (52, v52), (53, v53), (54, v54), (55, v55), (56, v56), (57, v57), (58, v58), (59, v59), (60, v60), (61, v61), (62, v62), (63, v63), (64, v64), (65, v65), (66, v66), (67, v67), (68, v68), (69, v69), (70, v70), (71, v71), (72, .bool true)] ∧ Below wo.heap.size wo w') (by kernel_rfl) ?_ ?_
            · intro Q' hR hQp
              have hb0 : Below wo.heap.size wo wo.drew := by (repeat' (first | with_reducible (first | exact Below.refl _ _ | assumption | refine Below.drew ?_ | refine Below_drewN ?_ _ | refine Below.alloc ?_ ?_ _ | refine Below.setCell ?_ ?_ _) | omega | (simp; done) | (simp; omega)))
              have hS : SC [(⟨rb, 0, none⟩, (.string s)), (⟨rb, 1, none⟩, (.int .i64 (p : Int)))] wo.drew := hS0
              generalize wo.drew = wa at *
              refine wpAnyK_takes hQp hS [0,1,2,3,4,5,6] ?_
              iterate 7 (refine takeK_cons _ rfl (by kernel_rfl) (yields_value (by kernel_rfl) (by intro w0 hw0; have hw1 := hw0; simp only [SC] at hw1; first | (go_simp; done) | (go_simp; rfl))) ?_; simp only [Act.put, List.getElem_toArray, List.getElem_cons_succ, List.getElem_cons_zero, List.setIfInBounds_toArray, List.set_cons_succ, List.set_cons_zero])
              refine takeK_nil ?_
              refine wpAnyK_takes hQp hS [7,8,9,10,11,12,13] ?_
              iterate 7 (refine takeK_cons _ rfl (by kernel_rfl) (yields_value (by kernel_rfl) (by intro w0 hw0; have hw1 := hw0; simp only [SC] at hw1; first | (go_simp; done) | (go_simp; rfl))) ?_; simp only [Act.put, List.getElem_toArray, List.getElem_cons_succ, List.getElem_cons_zero, List.setIfInBounds_toArray, List.set_cons_succ, List.set_cons_zero])
              refine takeK_nil ?_
              refine wpAnyK_takes hQp hS [14,15] ?_
              iterate 2 (refine takeK_cons _ rfl (by kernel_rfl) (yields_value (by kernel_rfl) (by intro w0 hw0; have hw1 := hw0; simp only [SC] at hw1; first | (go_simp; done) | (go_simp; rfl))) ?_; simp only [Act.put, List.getElem_toArray, List.getElem_cons_succ, List.getElem_cons_zero, List.setIfInBounds_toArray, List.set_cons_succ, List.set_cons_zero])
              refine takeK_nil ?_
              refine wpAnyK_take' (i := 16) undef rfl (by kernel_rfl) (fun _ _ _ h => hQp _ _ _ _ h) hS (.inr ⟨by kernel_rfl, rfl⟩) ?_; simp only [Act.put, List.getElem_toArray, List.getElem_cons_succ, List.getElem_cons_zero, List.setIfInBounds_toArray, List.set_cons_succ, List.set_cons_zero]
              refine wpAnyK_take' (i := 17) undef rfl (by kernel_rfl) (fun _ _ _ h => hQp _ _ _ _ h) hS (.inr ⟨by kernel_rfl, rfl⟩) ?_; simp only [Act.put, List.getElem_toArray, List.getElem_cons_succ, List.getElem_cons_zero, List.setIfInBounds_toArray, List.set_cons_succ, List.set_cons_zero]
              refine wpAnyK_take' (i := 18) undef rfl (by kernel_rfl) (fun _ _ _ h => hQp _ _ _ _ h) hS (.inr ⟨by kernel_rfl, rfl⟩) ?_; simp only [Act.put, List.getElem_toArray, List.getElem_cons_succ, List.getElem_cons_zero, List.setIfInBounds_toArray, List.set_cons_succ, List.set_cons_zero]
              refine wpAnyK_take' (i := 19) undef rfl (by kernel_rfl) (fun _ _ _ h => hQp _ _ _ _ h) hS (.inr ⟨by kernel_rfl, rfl⟩) ?_; simp only [Act.put, List.getElem_toArray, List.getElem_cons_succ, List.getElem_cons_zero, List.setIfInBounds_toArray, List.set_cons_succ, List.set_cons_zero]
              refine wpAnyK_take' (i := 20) undef rfl (by kernel_rfl) (fun _ _ _ h => hQp _ _ _ _ h) hS (.inr ⟨by kernel_rfl, rfl⟩) ?_; simp only [Act.put, List.getElem_toArray, List.getElem_cons_succ, List.getElem_cons_zero, List.setIfInBounds_toArray, List.set_cons_succ, List.set_cons_zero]
              refine wpAnyK_take' (i := 21) undef rfl (by kernel_rfl) (fun _ _ _ h => hQp _ _ _ _ h) hS (.inr ⟨by kernel_rfl, rfl⟩) ?_; simp only [Act.put, List.getElem_toArray, List.getElem_cons_succ, List.getElem_cons_zero, List.setIfInBounds_toArray, List.set_cons_succ, List.set_cons_zero]
              refine wpAnyK_take' (i := 22) undef rfl (by kernel_rfl) (fun _ _ _ h => hQp _ _ _ _ h) hS (.inr ⟨by kernel_rfl, rfl⟩) ?_; simp only [Act.put, List.getElem_toArray, List.getElem_cons_succ, List.getElem_cons_zero, List.setIfInBounds_toArray, List.set_cons_succ, List.set_cons_zero]
              refine wpAnyK_take' (i := 23) undef rfl (by kernel_rfl) (fun _ _ _ h => hQp _ _ _ _ h) hS (.inr ⟨by kernel_rfl, rfl⟩) ?_; simp only [Act.put, List.getElem_toArray, List.getElem_cons_succ, List.getElem_cons_zero, List.setIfInBounds_toArray, List.set_cons_succ, List.set_cons_zero]
              refine wpAnyK_take' (i := 24) undef rfl (by kernel_rfl) (fun _ _ _ h => hQp _ _ _ _ h) hS (.inr ⟨by kernel_rfl, rfl⟩) ?_; simp only [Act.put, List.getElem_toArray, List.getElem_cons_succ, List.getElem_cons_zero, List.setIfInBounds_toArray, List.set_cons_succ, List.set_cons_zero]
              refine wpAnyK_take' (i := 28) undef rfl (by kernel_rfl) (fun _ _ _ h => hQp _ _ _ _ h) hS (.inr ⟨by kernel_rfl, rfl⟩) ?_; simp only [Act.put, List.getElem_toArray, List.getElem_cons_succ, List.getElem_cons_zero, List.setIfInBounds_toArray, List.set_cons_succ, List.set_cons_zero]
              refine wpAnyK_take' (i := 25) undef rfl (by kernel_rfl) (fun _ _ _ h => hQp _ _ _ _ h) hS (.inr ⟨by kernel_rfl, rfl⟩) ?_; simp only [Act.put, List.getElem_toArray, List.getElem_cons_succ, List.getElem_cons_zero, List.setIfInBounds_toArray, List.set_cons_succ, List.set_cons_zero]
              refine wpAnyK_take' (i := 29) undef rfl (by kernel_rfl) (fun _ _ _ h => hQp _ _ _ _ h) hS (.inr ⟨by kernel_rfl, rfl⟩) ?_; simp only [Act.put, List.getElem_toArray, List.getElem_cons_succ, List.getElem_cons_zero, List.setIfInBounds_toArray, List.set_cons_succ, List.set_cons_zero]
              refine wpAnyK_take' (i := 26) undef rfl (by kernel_rfl) (fun _ _ _ h => hQp _ _ _ _ h) hS (.inr ⟨by kernel_rfl, rfl⟩) ?_; simp only [Act.put, List.getElem_toArray, List.getElem_cons_succ, List.getElem_cons_zero, List.setIfInBounds_toArray, List.set_cons_succ, List.set_cons_zero]
              refine wpAnyK_take' (i := 30) undef rfl (by kernel_rfl) (fun _ _ _ h => hQp _ _ _ _ h) hS (.inr ⟨by kernel_rfl, rfl⟩) ?_; simp only [Act.put, List.getElem_toArray, List.getElem_cons_succ, List.getElem_cons_zero, List.setIfInBounds_toArray, List.set_cons_succ, List.set_cons_zero]
              refine wpAnyK_take' (i := 27) undef rfl (by kernel_rfl) (fun _ _ _ h => hQp _ _ _ _ h) hS (.inr ⟨by kernel_rfl, rfl⟩) ?_; simp only [Act.put, List.getElem_toArray, List.getElem_cons_succ, List.getElem_cons_zero, List.setIfInBounds_toArray, List.set_cons_succ, List.set_cons_zero]
              refine wpAnyK_take' (i := 31) undef rfl (by kernel_rfl) (fun _ _ _ h => hQp _ _ _ _ h) hS (.inr ⟨by kernel_rfl, rfl⟩) ?_; simp only [Act.put, List.getElem_toArray, List.getElem_cons_succ, List.getElem_cons_zero, List.setIfInBounds_toArray, List.set_cons_succ, List.set_cons_zero]
              refine wpAnyK_take' (i := 32) undef rfl (by kernel_rfl) (fun _ _ _ h => hQp _ _ _ _ h) hS (.inr ⟨by kernel_rfl, rfl⟩) ?_; simp only [Act.put, List.getElem_toArray, List.getElem_cons_succ, List.getElem_cons_zero, List.setIfInBounds_toArray, List.set_cons_succ, List.set_cons_zero]
              refine wpAnyK_take' (i := 33) undef rfl (by kernel_rfl) (fun _ _ _ h => hQp _ _ _ _ h) hS (.inr ⟨by kernel_rfl, rfl⟩) ?_; simp only [Act.put, List.getElem_toArray, List.getElem_cons_succ, List.getElem_cons_zero, List.setIfInBounds_toArray, List.set_cons_succ, List.set_cons_zero]
              refine wpAnyK_take' (i := 34) undef rfl (by kernel_rfl) (fun _ _ _ h => hQp _ _ _ _ h) hS (.inr ⟨by kernel_rfl, rfl⟩) ?_; simp only [Act.put, List.getElem_toArray, List.getElem_cons_succ, List.getElem_cons_zero, List.setIfInBounds_toArray, List.set_cons_succ, List.set_cons_zero]
              refine wpAnyK_takes hQp hS [35] ?_
              iterate 1 (refine takeK_cons _ rfl (by kernel_rfl) (yields_value (by kernel_rfl) (by intro w0 hw0; have hw1 := hw0; simp only [SC] at hw1; first | (go_simp; done) | (go_simp; rfl))) ?_; simp only [Act.put, List.getElem_toArray, List.getElem_cons_succ, List.getElem_cons_zero, List.setIfInBounds_toArray, List.set_cons_succ, List.set_cons_zero])
              refine takeK_nil ?_
              refine wpAnyK_done (by kernel_rfl) ?_ _
              refine hR _ _ ?_
              iterate 35 apply Exists.intro
              refine ⟨?_, hb0⟩
              simp only [puts, Act.put, List.setIfInBounds_toArray, List.set_cons_succ, List.set_cons_zero]
              rfl
            rintro a' w8 ⟨v37, v38, v39, v40, v41, v42, v43, v44, v45, v46, v47, v48, v49, v50, v51, v52, v53, v54, v55, v56, v57, v58, v59, v60, v61, v62, v63, v64, v65, v66, v67, v68, v69, v70, v71, rfl, hb8⟩
            simp only [puts, Act.put, List.setIfInBounds_toArray, List.set_cons_succ, List.set_cons_zero]
            rename World => w1
            have h2 := h1.under hb8
            obtain ⟨r3, r4⟩ := h2.cells
            have hrl2 := h2.lt
            have h3 := h2.set 2 (.bool true)
            simp only [List.setIfInBounds_toArray, List.set_cons_succ, List.set_cons_zero] at h3
            have hF : Frm (fun k => k ≠ rb) B w (w1.setCell ⟨rb, 2, none⟩ (.bool true)) := (Frm.of (hb.trans (hb8.mono hb.size)) (by omega)).trans (Frm.set (a := ⟨rb, 2, none⟩) (fun h => h rfl) hB _)
            clear hS0 e1 e2
            go_wp2
            go_ret
            exact ⟨0, p, true, rfl, h3, hF, HBD.out⟩
          case neg =>
            have e2 : ¬ (p : Int) + 4 < (k : Int) := by have := HKD.out; omega
            by_cases hD1 : 1 < D
            case pos =>
              have e3 : (p : Int) + 1 < (k : Int) := by have := HKD.out; omega
              have hps : p < s.size := by have := HKD.out; omega
              have b5 : (p : Int) < (s.size : Int) := by omega
              have b6 : (0 : Int) ≤ (p : Int) := by omega
              have hatp := HAT.out p hps
              by_cases hz : (s[p]'hps).toNat = 48
              case pos =>
                have e4 : (((s[p]'hps).toNat : Int) == 48) = true := by rw [beq_iff_eq]; omega
                have HBD := Lib.hid (HBAD.out (.inr (.inr ⟨hD1, by rw [hatp, show s[p]'hps = 48 from UInt8.toNat_inj.1 hz]⟩)))
                clear hD0 hatp
                --CUTC2
                refine wp_region_to (SC [(⟨rb, 0, none⟩, (.string s)), (⟨rb, 1, none⟩, (.int .i64 (p : Int)))]) 99 (fun a0 a' w' => ∃ v37 v38 v39 v40 v41 v42 v43 v44 v45 v46 v47 v48 v49 v50 v51 v52 v53 v54 v55 v56 v57 v58 v59 v60 v61 v62 v63 v64 v65 v66 v67 v68 v69 v70 v71, a' = puts a0 [(37, v37), (38, v38), (39, v39), (40, v40), (41, v41), (42, v42), (43, v43), (44, v44), (45, v45), (46, v46), (47, v47), (48, v48), (49, v49), (50, v50), (51, v51), (52, v52), (53, v53), (54, v54), (55, v55), (56, v56), (57, v57), (58, v58), (59, v59), (60, v60), (61, v61), (62, v62), (63, v63), (64, v64), (65, v65), (66, v66), (67, v67), (68, v68), (69, v69), (70, v70), (71, v71), (72, .bool true)] ∧ Below wo.heap.size wo w') (by kernel_rfl) ?_ ?_
                · intro Q' hR hQp
                  have hb0 : Below wo.heap.size wo wo.drew := by (repeat' (first | with_reducible (first | exact Below.refl _ _ | assumption | refine Below.drew ?_ | refine Below_drewN ?_ _ | refine Below.alloc ?_ ?_ _ | refine Below.setCell ?_ ?_ _) | omega | (simp; done) | (simp; omega)))
                  have hS : SC [(⟨rb, 0, none⟩, (.string s)), (⟨rb, 1, none⟩, (.int .i64 (p : Int)))] wo.drew := hS0
                  generalize wo.drew = wa at *
                  refine wpAnyK_takes hQp hS [0,1,2,3,4,5,6] ?_
                  iterate 7 (refine takeK_cons _ rfl (by kernel_rfl) (yields_value (by kernel_rfl) (by intro w0 hw0; have hw1 := hw0; simp only [SC] at hw1; first | (go_simp; done) | (go_simp; rfl))) ?_; simp only [Act.put, List.getElem_toArray, List.getElem_cons_succ, List.getElem_cons_zero, List.setIfInBounds_toArray, List.set_cons_succ, List.set_cons_zero])
                  refine takeK_nil ?_
                  refine wpAnyK_takes hQp hS [7,8,9,10,11,12,13] ?_
                  iterate 7 (refine takeK_cons _ rfl (by kernel_rfl) (yields_value (by kernel_rfl) (by intro w0 hw0; have hw1 := hw0; simp only [SC] at hw1; first | (go_simp; done) | (go_simp; rfl))) ?_; simp only [Act.put, List.getElem_toArray, List.getElem_cons_succ, List.getElem_cons_zero, List.setIfInBounds_toArray, List.set_cons_succ, List.set_cons_zero])
                  refine takeK_nil ?_
                  refine wpAnyK_takes hQp hS [14,15] ?_
                  iterate 2 (refine takeK_cons _ rfl (by kernel_rfl) (yields_value (by kernel_rfl) (by intro w0 hw0; have hw1 := hw0; simp only [SC] at hw1; first | (go_simp; done) | (go_simp; rfl))) ?_; simp only [Act.put, List.getElem_toArray, List.getElem_cons_succ, List.getElem_cons_zero, List.setIfInBounds_toArray, List.set_cons_succ, List.set_cons_zero])
                  refine takeK_nil ?_
                  refine wpAnyK_takes hQp hS [16,17,18,19,20,21,22,23] ?_
                  iterate 8 (refine takeK_cons _ rfl (by kernel_rfl) (yields_value (by kernel_rfl) (by intro w0 hw0; have hw1 := hw0; simp only [SC] at hw1; first | (go_simp; done) | (go_simp; rfl))) ?_; simp only [Act.put, List.getElem_toArray, List.getElem_cons_succ, List.getElem_cons_zero, List.setIfInBounds_toArray, List.set_cons_succ, List.set_cons_zero])
                  refine takeK_nil ?_
                  refine wpAnyK_takes hQp hS [24,28,25,29,26,30,27,31,32,33,34] ?_
                  iterate 11 (refine takeK_cons _ rfl (by kernel_rfl) (yields_value (by kernel_rfl) (by intro w0 hw0; have hw1 := hw0; simp only [SC] at hw1; first | (go_simp; done) | (go_simp; rfl))) ?_; simp only [Act.put, List.getElem_toArray, List.getElem_cons_succ, List.getElem_cons_zero, List.setIfInBounds_toArray, List.set_cons_succ, List.set_cons_zero])
                  refine takeK_nil ?_
                  refine wpAnyK_takes hQp hS [35] ?_
                  iterate 1 (refine takeK_cons _ rfl (by kernel_rfl) (yields_value (by kernel_rfl) (by intro w0 hw0; have hw1 := hw0; simp only [SC] at hw1; first | (go_simp; done) | (go_simp; rfl))) ?_; simp only [Act.put, List.getElem_toArray, List.getElem_cons_succ, List.getElem_cons_zero, List.setIfInBounds_toArray, List.set_cons_succ, List.set_cons_zero])
                  refine takeK_nil ?_
                  refine wpAnyK_done (by kernel_rfl) ?_ _
                  refine hR _ _ ?_
                  iterate 35 apply Exists.intro
                  refine ⟨?_, hb0⟩
                  simp only [puts, Act.put, List.setIfInBounds_toArray, List.set_cons_succ, List.set_cons_zero]
                  rfl
                rintro a' w8 ⟨v37, v38, v39, v40, v41, v42, v43, v44, v45, v46, v47, v48, v49, v50, v51, v52, v53, v54, v55, v56, v57, v58, v59, v60, v61, v62, v63, v64, v65, v66, v67, v68, v69, v70, v71, rfl, hb8⟩
                simp only [puts, Act.put, List.setIfInBounds_toArray, List.set_cons_succ, List.set_cons_zero]
                rename World => w1
                have h2 := h1.under hb8
                obtain ⟨r3, r4⟩ := h2.cells
                have hrl2 := h2.lt
                have h3 := h2.set 2 (.bool true)
                simp only [List.setIfInBounds_toArray, List.set_cons_succ, List.set_cons_zero] at h3
                have hF : Frm (fun k => k ≠ rb) B w (w1.setCell ⟨rb, 2, none⟩ (.bool true)) := (Frm.of (hb.trans (hb8.mono hb.size)) (by omega)).trans (Frm.set (a := ⟨rb, 2, none⟩) (fun h => h rfl) hB _)
                clear hS0 e1 e2 e3 e4
                go_wp2
                go_ret
                exact ⟨0, p, true, rfl, h3, hF, HBD.out⟩
              case neg =>
                have e4 : (((s[p]'hps).toNat : Int) == 48) = false := by rw [beq_eq_false_iff_ne]; omega
                have hgd := HGOOD.out hD0 hD4 (fun e => hz (by have h9 := e.2; rw [hatp] at h9; have := Option.some.inj h9; rw [this]; rfl))
                rw [← HKD.out] at hgd
                have HGD := Lib.hid hgd
                have HMID : Hid ((s.extract p k).data.toList = (s.data.toList.drop p).take D) := Lib.hid (by rw [str_mid, show k - p = D by have := HKD.out; omega])
                have HSZ : Hid ((s.extract p k).size ≤ 18) := Lib.hid (by rw [← str_len, HMID.out, List.length_take]; omega)
                clear hD0 hatp hgd
                --CUTD2
                refine wp_region_to (SC [(⟨rb, 0, none⟩, (.string s)), (⟨rb, 1, none⟩, (.int .i64 (p : Int)))]) 99 (fun a0 a' w' => ∃ v37 v38 v39 v40 v41 v42 v43 v44 v45 v46 v47 v48 v49 v50 v51 v52 v53 v54 v55 v56 v57 v58 v59 v60 v61 v62 v63 v64 v65 v66 v67 v68 v69 v70 v71, a' = puts a0 [(37, v37), (38, v38), (39, v39), (40, v40), (41, v41), (42, v42), (43, v43), (44, v44), (45, v45), (46, v46), (47, v47), (48, v48), (49, v49), (50, v50), (51, v51), (52, v52), (53, v53), (54, v54), (55, v55), (56, v56), (57, v57), (58, v58), (59, v59), (60, v60), (61, v61), (62, v62), (63, v63), (64, v64), (65, v65), (66, v66), (67, v67), (68, v68), (69, v69), (70, v70), (71, v71), (72, .bool false)] ∧ Below wo.heap.size wo w') (by kernel_rfl) ?_ ?_
                · intro Q' hR hQp
                  have hb0 : Below wo.heap.size wo wo.drew := by (repeat' (first | with_reducible (first | exact Below.refl _ _ | assumption | refine Below.drew ?_ | refine Below_drewN ?_ _ | refine Below.alloc ?_ ?_ _ | refine Below.setCell ?_ ?_ _) | omega | (simp; done) | (simp; omega)))
                  have hS : SC [(⟨rb, 0, none⟩, (.string s)), (⟨rb, 1, none⟩, (.int .i64 (p : Int)))] wo.drew := hS0
                  generalize wo.drew = wa at *
                  refine wpAnyK_takes hQp hS [0,1,2,3,4,5,6] ?_
                  iterate 7 (refine takeK_cons _ rfl (by kernel_rfl) (yields_value (by kernel_rfl) (by intro w0 hw0; have hw1 := hw0; simp only [SC] at hw1; first | (go_simp; done) | (go_simp; rfl))) ?_; simp only [Act.put, List.getElem_toArray, List.getElem_cons_succ, List.getElem_cons_zero, List.setIfInBounds_toArray, List.set_cons_succ, List.set_cons_zero])
                  refine takeK_nil ?_
                  refine wpAnyK_takes hQp hS [7,8,9,10,11,12,13] ?_
                  iterate 7 (refine takeK_cons _ rfl (by kernel_rfl) (yields_value (by kernel_rfl) (by intro w0 hw0; have hw1 := hw0; simp only [SC] at hw1; first | (go_simp; done) | (go_simp; rfl))) ?_; simp only [Act.put, List.getElem_toArray, List.getElem_cons_succ, List.getElem_cons_zero, List.setIfInBounds_toArray, List.set_cons_succ, List.set_cons_zero])
                  refine takeK_nil ?_
                  refine wpAnyK_takes hQp hS [14,15] ?_
                  iterate 2 (refine takeK_cons _ rfl (by kernel_rfl) (yields_value (by kernel_rfl) (by intro w0 hw0; have hw1 := hw0; simp only [SC] at hw1; first | (go_simp; done) | (go_simp; rfl))) ?_; simp only [Act.put, List.getElem_toArray, List.getElem_cons_succ, List.getElem_cons_zero, List.setIfInBounds_toArray, List.set_cons_succ, List.set_cons_zero])
                  refine takeK_nil ?_
                  refine wpAnyK_takes hQp hS [16,17,18,19,20,21,22,23] ?_
                  iterate 8 (refine takeK_cons _ rfl (by kernel_rfl) (yields_value (by kernel_rfl) (by intro w0 hw0; have hw1 := hw0; simp only [SC] at hw1; first | (go_simp; done) | (go_simp; rfl))) ?_; simp only [Act.put, List.getElem_toArray, List.getElem_cons_succ, List.getElem_cons_zero, List.setIfInBounds_toArray, List.set_cons_succ, List.set_cons_zero])
                  refine takeK_nil ?_
                  refine wpAnyK_takes hQp hS [24,28,25,29,26,30,27,31,32,33,34] ?_
                  iterate 11 (refine takeK_cons _ rfl (by kernel_rfl) (yields_value (by kernel_rfl) (by intro w0 hw0; have hw1 := hw0; simp only [SC] at hw1; first | (go_simp; done) | (go_simp; rfl))) ?_; simp only [Act.put, List.getElem_toArray, List.getElem_cons_succ, List.getElem_cons_zero, List.setIfInBounds_toArray, List.set_cons_succ, List.set_cons_zero])
                  refine takeK_nil ?_
                  refine wpAnyK_takes hQp hS [35] ?_
                  iterate 1 (refine takeK_cons _ rfl (by kernel_rfl) (yields_value (by kernel_rfl) (by intro w0 hw0; have hw1 := hw0; simp only [SC] at hw1; first | (go_simp; done) | (go_simp; rfl))) ?_; simp only [Act.put, List.getElem_toArray, List.getElem_cons_succ, List.getElem_cons_zero, List.setIfInBounds_toArray, List.set_cons_succ, List.set_cons_zero])
                  refine takeK_nil ?_
                  refine wpAnyK_done (by kernel_rfl) ?_ _
                  refine hR _ _ ?_
                  iterate 35 apply Exists.intro
                  refine ⟨?_, hb0⟩
                  simp only [puts, Act.put, List.setIfInBounds_toArray, List.set_cons_succ, List.set_cons_zero]
                  rfl
                rintro a' w8 ⟨v37, v38, v39, v40, v41, v42, v43, v44, v45, v46, v47, v48, v49, v50, v51, v52, v53, v54, v55, v56, v57, v58, v59, v60, v61, v62, v63, v64, v65, v66, v67, v68, v69, v70, v71, rfl, hb8⟩
                simp only [puts, Act.put, List.setIfInBounds_toArray, List.set_cons_succ, List.set_cons_zero]
                rename World => w1
                have h2 := h1.under hb8
                have hbw := hb.trans (hb8.mono hb.size)
                obtain ⟨r3, r4⟩ := h2.cells
                have hrl2 := h2.lt
                clear hS0 e1 e2 e3 e4
                have hS3 : SC [(⟨rb, 0, none⟩, (.string s)), (⟨rb, 1, none⟩, (.int .i64 (p : Int)))] w1 := ⟨h2.cells.1 0, h2.cells.1 1, trivial⟩
                have hS0 : SC [(⟨rb, 0, none⟩, (.string s)), (⟨rb, 1, none⟩, (.int .i64 (p : Int)))] w1.drew := hS3
                go_upto_region 7 with fail
                clear r3 r4
                have g0 : (0 : Int) ≤ (p : Int) := by omega
                have g1 : (p : Int) ≤ (k : Int) := by omega
                have g2 : (k : Int) ≤ (s.size : Int) := by have := HKD.out; omega
                --CUTF2D
                refine wp_region_to (SC [(⟨rb, 0, none⟩, (.string s)), (⟨rb, 1, none⟩, (.int .i64 (p : Int)))]) 99 (fun a0 a' w' => ∃ v76 v77 v78 v79 v80 v81 v82 v83 v84 v85 v86 v87 v88 v89, a' = puts a0 [(76, v76), (77, v77), (78, v78), (79, v79), (80, v80), (81, v81), (82, v82), (83, v83), (84, v84), (85, v85), (86, v86), (87, v87), (88, v88), (89, v89), (4, .int .i64 ((decVal ((s.data.toList.drop p).take D) : Nat) : Int)), (5, .nilIface)] ∧ Below w1.heap.size w1 w') (by kernel_rfl) ?_ ?_
                · intro Q' hR hQp
                  have hb0 : Below w1.heap.size w1 w1.drew := by (repeat' (first | with_reducible (first | exact Below.refl _ _ | assumption | refine Below.drew ?_ | refine Below_drewN ?_ _ | refine Below.alloc ?_ ?_ _ | refine Below.setCell ?_ ?_ _) | omega | (simp; done) | (simp; omega)))
                  have hS : SC [(⟨rb, 0, none⟩, (.string s)), (⟨rb, 1, none⟩, (.int .i64 (p : Int)))] w1.drew := hS0
                  generalize w1.drew = wa at *
                  refine wpAnyK_takes hQp hS [0,4,8,1,5,2,6,3,7,9] ?_
                  iterate 10 (refine takeK_cons _ rfl (by kernel_rfl) (yields_value (by kernel_rfl) (by intro w0 hw0; have hw1 := hw0; simp only [SC] at hw1; first | (go_simp; done) | (go_simp; rfl))) ?_; simp only [Act.put, List.getElem_toArray, List.getElem_cons_succ, List.getElem_cons_zero, List.setIfInBounds_toArray, List.set_cons_succ, List.set_cons_zero])
                  refine takeK_nil ?_
                  --CUTG2D
                  clear hS
                  refine wpAnyK_call (i := 10) rfl (by kernel_rfl) (by kernel_rfl) fun K10 hK10 => ?_
                  go_simp
                  go_wp2_with fail
                  --CUTH2D
                  refine (Tryd.strconv_Atoi (s.extract p k) _ HSZ.out (by rw [HMID.out]; exact HGD.out.2) _).mono ?_
                  rintro e wb ⟨rfl, tt, rfl⟩
                  have hbx := Lib.bytesWorld_below wa 5 tt
                  have hbz := hb0.trans (hbx.mono hb0.size)
                  go_wp2_with fail
                  have hS : _ := SC.later hbz hS3
                  refine hK10 _ _ (fun _ => hS) ?_
                  clear hK10
                  refine wpAnyK_takes hQp hS [11,12,13,14,15] ?_
                  iterate 5 (refine takeK_cons _ rfl (by kernel_rfl) (yields_value (by kernel_rfl) (by intro w0 hw0; have hw1 := hw0; simp only [SC] at hw1; first | (go_simp; done) | (go_simp; rfl))) ?_; simp only [Act.put, List.getElem_toArray, List.getElem_cons_succ, List.getElem_cons_zero, List.setIfInBounds_toArray, List.set_cons_succ, List.set_cons_zero])
                  refine takeK_nil ?_
                  refine wpAnyK_done (by kernel_rfl) ?_ _
                  refine hR _ _ ?_
                  iterate 14 apply Exists.intro
                  refine ⟨?_, hbz⟩
                  simp only [puts, Act.put, List.setIfInBounds_toArray, List.set_cons_succ, List.set_cons_zero]
                  rfl
                rintro a' w8 ⟨v76, v77, v78, v79, v80, v81, v82, v83, v84, v85, v86, v87, v88, v89, rfl, hb8⟩
                simp only [puts, Act.put, List.setIfInBounds_toArray, List.set_cons_succ, List.set_cons_zero]
                rename World => w2
                have h4 := h2.under hb8
                obtain ⟨r3, r4⟩ := h4.cells
                have hrl4 := h4.lt
                have h5 := h4.set 1 (.int .i64 (k : Int))
                simp only [List.setIfInBounds_toArray, List.set_cons_succ, List.set_cons_zero] at h5
                have hF : Frm (fun k => k ≠ rb) B w (w2.setCell ⟨rb, 1, none⟩ (.int .i64 (k : Int))) := (Frm.of (hbw.trans (hb8.mono hbw.size)) (by omega)).trans (Frm.set (a := ⟨rb, 1, none⟩) (fun h => h rfl) hB _)
                clear hS0 hS3
                go_wp2
                go_ret
                exact ⟨_, k, false, rfl, h5, hF, HGD.out.1⟩
            case neg =>
              have e3 : ¬ (p : Int) + 1 < (k : Int) := by have := HKD.out; omega
              have hgd := HGOOD.out hD0 hD4 (fun e => hD1 e.1)
              rw [← HKD.out] at hgd
              have HGD := Lib.hid hgd
              have HMID : Hid ((s.extract p k).data.toList = (s.data.toList.drop p).take D) := Lib.hid (by rw [str_mid, show k - p = D by have := HKD.out; omega])
              have HSZ : Hid ((s.extract p k).size ≤ 18) := Lib.hid (by rw [← str_len, HMID.out, List.length_take]; omega)
              clear hD0 hgd
              --CUTE2
              refine wp_region_to (SC [(⟨rb, 0, none⟩, (.string s)), (⟨rb, 1, none⟩, (.int .i64 (p : Int)))]) 99 (fun a0 a' w' => ∃ v37 v38 v39 v40 v41 v42 v43 v44 v45 v46 v47 v48 v49 v50 v51 v52 v53 v54 v55 v56 v57 v58 v59 v60 v61 v62 v63 v64 v65 v66 v67 v68 v69 v70 v71, a' = puts a0 [(37, v37), (38, v38), (39, v39), (40, v40), (41, v41), (42, v42), (43, v43), (44, v44), (45, v45), (46, v46), (47, v47), (48, v48), (49, v49), (50, v50), (51, v51), (52, v52), (53, v53), (54, v54), (55, v55), (56, v56), (57, v57), (58, v58), (59, v59), (60, v60), (61, v61), (62, v62), (63, v63), (64, v64), (65, v65), (66, v66), (67, v67), (68, v68), (69, v69), (70, v70), (71, v71), (72, .bool false)] ∧ Below wo.heap.size wo w') (by kernel_rfl) ?_ ?_
              · intro Q' hR hQp
                have hb0 : Below wo.heap.size wo wo.drew := by (repeat' (first | with_reducible (first | exact Below.refl _ _ | assumption | refine Below.drew ?_ | refine Below_drewN ?_ _ | refine Below.alloc ?_ ?_ _ | refine Below.setCell ?_ ?_ _) | omega | (simp; done) | (simp; omega)))
                have hS : SC [(⟨rb, 0, none⟩, (.string s)), (⟨rb, 1, none⟩, (.int .i64 (p : Int)))] wo.drew := hS0
                generalize wo.drew = wa at *
                refine wpAnyK_takes hQp hS [0,1,2,3,4,5,6] ?_
                iterate 7 (refine takeK_cons _ rfl (by kernel_rfl) (yields_value (by kernel_rfl) (by intro w0 hw0; have hw1 := hw0; simp only [SC] at hw1; first | (go_simp; done) | (go_simp; rfl))) ?_; simp only [Act.put, List.getElem_toArray, List.getElem_cons_succ, List.getElem_cons_zero, List.setIfInBounds_toArray, List.set_cons_succ, List.set_cons_zero])
                refine takeK_nil ?_
                refine wpAnyK_takes hQp hS [7,8,9,10,11,12,13] ?_
                iterate 7 (refine takeK_cons _ rfl (by kernel_rfl) (yields_value (by kernel_rfl) (by intro w0 hw0; have hw1 := hw0; simp only [SC] at hw1; first | (go_simp; done) | (go_simp; rfl))) ?_; simp only [Act.put, List.getElem_toArray, List.getElem_cons_succ, List.getElem_cons_zero, List.setIfInBounds_toArray, List.set_cons_succ, List.set_cons_zero])
                refine takeK_nil ?_
                refine wpAnyK_takes hQp hS [14,15] ?_
                iterate 2 (refine takeK_cons _ rfl (by kernel_rfl) (yields_value (by kernel_rfl) (by intro w0 hw0; have hw1 := hw0; simp only [SC] at hw1; first | (go_simp; done) | (go_simp; rfl))) ?_; simp only [Act.put, List.getElem_toArray, List.getElem_cons_succ, List.getElem_cons_zero, List.setIfInBounds_toArray, List.set_cons_succ, List.set_cons_zero])
                refine takeK_nil ?_
                refine wpAnyK_takes hQp hS [16,17,18,19,20,21,22,23] ?_
                iterate 8 (refine takeK_cons _ rfl (by kernel_rfl) (yields_value (by kernel_rfl) (by intro w0 hw0; have hw1 := hw0; simp only [SC] at hw1; first | (go_simp; done) | (go_simp; rfl))) ?_; simp only [Act.put, List.getElem_toArray, List.getElem_cons_succ, List.getElem_cons_zero, List.setIfInBounds_toArray, List.set_cons_succ, List.set_cons_zero])
                refine takeK_nil ?_
                refine wpAnyK_take' (i := 24) undef rfl (by kernel_rfl) (fun _ _ _ h => hQp _ _ _ _ h) hS (.inr ⟨by kernel_rfl, rfl⟩) ?_; simp only [Act.put, List.getElem_toArray, List.getElem_cons_succ, List.getElem_cons_zero, List.setIfInBounds_toArray, List.set_cons_succ, List.set_cons_zero]
                refine wpAnyK_take' (i := 28) undef rfl (by kernel_rfl) (fun _ _ _ h => hQp _ _ _ _ h) hS (.inr ⟨by kernel_rfl, rfl⟩) ?_; simp only [Act.put, List.getElem_toArray, List.getElem_cons_succ, List.getElem_cons_zero, List.setIfInBounds_toArray, List.set_cons_succ, List.set_cons_zero]
                refine wpAnyK_take' (i := 25) undef rfl (by kernel_rfl) (fun _ _ _ h => hQp _ _ _ _ h) hS (.inr ⟨by kernel_rfl, rfl⟩) ?_; simp only [Act.put, List.getElem_toArray, List.getElem_cons_succ, List.getElem_cons_zero, List.setIfInBounds_toArray, List.set_cons_succ, List.set_cons_zero]
                refine wpAnyK_take' (i := 29) undef rfl (by kernel_rfl) (fun _ _ _ h => hQp _ _ _ _ h) hS (.inr ⟨by kernel_rfl, rfl⟩) ?_; simp only [Act.put, List.getElem_toArray, List.getElem_cons_succ, List.getElem_cons_zero, List.setIfInBounds_toArray, List.set_cons_succ, List.set_cons_zero]
                refine wpAnyK_take' (i := 26) undef rfl (by kernel_rfl) (fun _ _ _ h => hQp _ _ _ _ h) hS (.inr ⟨by kernel_rfl, rfl⟩) ?_; simp only [Act.put, List.getElem_toArray, List.getElem_cons_succ, List.getElem_cons_zero, List.setIfInBounds_toArray, List.set_cons_succ, List.set_cons_zero]
                refine wpAnyK_take' (i := 30) undef rfl (by kernel_rfl) (fun _ _ _ h => hQp _ _ _ _ h) hS (.inr ⟨by kernel_rfl, rfl⟩) ?_; simp only [Act.put, List.getElem_toArray, List.getElem_cons_succ, List.getElem_cons_zero, List.setIfInBounds_toArray, List.set_cons_succ, List.set_cons_zero]
                refine wpAnyK_take' (i := 27) undef rfl (by kernel_rfl) (fun _ _ _ h => hQp _ _ _ _ h) hS (.inr ⟨by kernel_rfl, rfl⟩) ?_; simp only [Act.put, List.getElem_toArray, List.getElem_cons_succ, List.getElem_cons_zero, List.setIfInBounds_toArray, List.set_cons_succ, List.set_cons_zero]
                refine wpAnyK_take' (i := 31) undef rfl (by kernel_rfl) (fun _ _ _ h => hQp _ _ _ _ h) hS (.inr ⟨by kernel_rfl, rfl⟩) ?_; simp only [Act.put, List.getElem_toArray, List.getElem_cons_succ, List.getElem_cons_zero, List.setIfInBounds_toArray, List.set_cons_succ, List.set_cons_zero]
                refine wpAnyK_take' (i := 32) undef rfl (by kernel_rfl) (fun _ _ _ h => hQp _ _ _ _ h) hS (.inr ⟨by kernel_rfl, rfl⟩) ?_; simp only [Act.put, List.getElem_toArray, List.getElem_cons_succ, List.getElem_cons_zero, List.setIfInBounds_toArray, List.set_cons_succ, List.set_cons_zero]
                refine wpAnyK_take' (i := 33) undef rfl (by kernel_rfl) (fun _ _ _ h => hQp _ _ _ _ h) hS (.inr ⟨by kernel_rfl, rfl⟩) ?_; simp only [Act.put, List.getElem_toArray, List.getElem_cons_succ, List.getElem_cons_zero, List.setIfInBounds_toArray, List.set_cons_succ, List.set_cons_zero]
                refine wpAnyK_takes hQp hS [34] ?_
                iterate 1 (refine takeK_cons _ rfl (by kernel_rfl) (yields_value (by kernel_rfl) (by intro w0 hw0; have hw1 := hw0; simp only [SC] at hw1; first | (go_simp; done) | (go_simp; rfl))) ?_; simp only [Act.put, List.getElem_toArray, List.getElem_cons_succ, List.getElem_cons_zero, List.setIfInBounds_toArray, List.set_cons_succ, List.set_cons_zero])
                refine takeK_nil ?_
                refine wpAnyK_takes hQp hS [35] ?_
                iterate 1 (refine takeK_cons _ rfl (by kernel_rfl) (yields_value (by kernel_rfl) (by intro w0 hw0; have hw1 := hw0; simp only [SC] at hw1; first | (go_simp; done) | (go_simp; rfl))) ?_; simp only [Act.put, List.getElem_toArray, List.getElem_cons_succ, List.getElem_cons_zero, List.setIfInBounds_toArray, List.set_cons_succ, List.set_cons_zero])
                refine takeK_nil ?_
                refine wpAnyK_done (by kernel_rfl) ?_ _
                refine hR _ _ ?_
                iterate 35 apply Exists.intro
                refine ⟨?_, hb0⟩
                simp only [puts, Act.put, List.setIfInBounds_toArray, List.set_cons_succ, List.set_cons_zero]
                rfl
              rintro a' w8 ⟨v37, v38, v39, v40, v41, v42, v43, v44, v45, v46, v47, v48, v49, v50, v51, v52, v53, v54, v55, v56, v57, v58, v59, v60, v61, v62, v63, v64, v65, v66, v67, v68, v69, v70, v71, rfl, hb8⟩
              simp only [puts, Act.put, List.setIfInBounds_toArray, List.set_cons_succ, List.set_cons_zero]
              rename World => w1
              have h2 := h1.under hb8
              have hbw := hb.trans (hb8.mono hb.size)
              obtain ⟨r3, r4⟩ := h2.cells
              have hrl2 := h2.lt
              clear hS0 e1 e2 e3
              have hS3 : SC [(⟨rb, 0, none⟩, (.string s)), (⟨rb, 1, none⟩, (.int .i64 (p : Int)))] w1 := ⟨h2.cells.1 0, h2.cells.1 1, trivial⟩
              have hS0 : SC [(⟨rb, 0, none⟩, (.string s)), (⟨rb, 1, none⟩, (.int .i64 (p : Int)))] w1.drew := hS3
              go_upto_region 7 with fail
              clear r3 r4
              have g0 : (0 : Int) ≤ (p : Int) := by omega
              have g1 : (p : Int) ≤ (k : Int) := by omega
              have g2 : (k : Int) ≤ (s.size : Int) := by have := HKD.out; omega
              --CUTF2E
              refine wp_region_to (SC [(⟨rb, 0, none⟩, (.string s)), (⟨rb, 1, none⟩, (.int .i64 (p : Int)))]) 99 (fun a0 a' w' => ∃ v76 v77 v78 v79 v80 v81 v82 v83 v84 v85 v86 v87 v88 v89, a' = puts a0 [(76, v76), (77, v77), (78, v78), (79, v79), (80, v80), (81, v81), (82, v82), (83, v83), (84, v84), (85, v85), (86, v86), (87, v87), (88, v88), (89, v89), (4, .int .i64 ((decVal ((s.data.toList.drop p).take D) : Nat) : Int)), (5, .nilIface)] ∧ Below w1.heap.size w1 w') (by kernel_rfl) ?_ ?_
              · intro Q' hR hQp
                have hb0 : Below w1.heap.size w1 w1.drew := by (repeat' (first | with_reducible (first | exact Below.refl _ _ | assumption | refine Below.drew ?_ | refine Below_drewN ?_ _ | refine Below.alloc ?_ ?_ _ | refine Below.setCell ?_ ?_ _) | omega | (simp; done) | (simp; omega)))
                have hS : SC [(⟨rb, 0, none⟩, (.string s)), (⟨rb, 1, none⟩, (.int .i64 (p : Int)))] w1.drew := hS0
                generalize w1.drew = wa at *
                refine wpAnyK_takes hQp hS [0,4,8,1,5,2,6,3,7,9] ?_
                iterate 10 (refine takeK_cons _ rfl (by kernel_rfl) (yields_value (by kernel_rfl) (by intro w0 hw0; have hw1 := hw0; simp only [SC] at hw1; first | (go_simp; done) | (go_simp; rfl))) ?_; simp only [Act.put, List.getElem_toArray, List.getElem_cons_succ, List.getElem_cons_zero, List.setIfInBounds_toArray, List.set_cons_succ, List.set_cons_zero])
                refine takeK_nil ?_
                --CUTG2E
                clear hS
                refine wpAnyK_call (i := 10) rfl (by kernel_rfl) (by kernel_rfl) fun K10 hK10 => ?_
                go_simp
                go_wp2_with fail
                --CUTH2E
                refine (Tryd.strconv_Atoi (s.extract p k) _ HSZ.out (by rw [HMID.out]; exact HGD.out.2) _).mono ?_
                rintro e wb ⟨rfl, tt, rfl⟩
                have hbx := Lib.bytesWorld_below wa 5 tt
                have hbz := hb0.trans (hbx.mono hb0.size)
                go_wp2_with fail
                have hS : _ := SC.later hbz hS3
                refine hK10 _ _ (fun _ => hS) ?_
                clear hK10
                refine wpAnyK_takes hQp hS [11,12,13,14,15] ?_
                iterate 5 (refine takeK_cons _ rfl (by kernel_rfl) (yields_value (by kernel_rfl) (by intro w0 hw0; have hw1 := hw0; simp only [SC] at hw1; first | (go_simp; done) | (go_simp; rfl))) ?_; simp only [Act.put, List.getElem_toArray, List.getElem_cons_succ, List.getElem_cons_zero, List.setIfInBounds_toArray, List.set_cons_succ, List.set_cons_zero])
                refine takeK_nil ?_
                refine wpAnyK_done (by kernel_rfl) ?_ _
                refine hR _ _ ?_
                iterate 14 apply Exists.intro
                refine ⟨?_, hbz⟩
                simp only [puts, Act.put, List.setIfInBounds_toArray, List.set_cons_succ, List.set_cons_zero]
                rfl
              rintro a' w8 ⟨v76, v77, v78, v79, v80, v81, v82, v83, v84, v85, v86, v87, v88, v89, rfl, hb8⟩
              simp only [puts, Act.put, List.setIfInBounds_toArray, List.set_cons_succ, List.set_cons_zero]
              rename World => w2
              have h4 := h2.under hb8
              obtain ⟨r3, r4⟩ := h4.cells
              have hrl4 := h4.lt
              have h5 := h4.set 1 (.int .i64 (k : Int))
              simp only [List.setIfInBounds_toArray, List.set_cons_succ, List.set_cons_zero] at h5
              have hF : Frm (fun k => k ≠ rb) B w (w2.setCell ⟨rb, 1, none⟩ (.int .i64 (k : Int))) := (Frm.of (hbw.trans (hb8.mono hbw.size)) (by omega)).trans (Frm.set (a := ⟨rb, 1, none⟩) (fun h => h rfl) hB _)
              clear hS0 hS3
              go_wp2
              go_ret
              exact ⟨_, k, false, rfl, h5, hF, HGD.out.1⟩
    case neg =>
      have b1 : ¬ (k : Int) < (s.size : Int) := by omega
      have HK : Hid (k - p = D) := Lib.hid (by omega)
      go_wp2
      have hkd : k = p + D := by have := HK.out; omega
      have HKD := Lib.hid hkd
      have hS1 : SC [(⟨rb, 0, none⟩, (.string s)), (⟨rb, 1, none⟩, (.int .i64 (p : Int)))] wo := ⟨h1.cells.1 0, h1.cells.1 1, trivial⟩
      have hS0 : SC [(⟨rb, 0, none⟩, (.string s)), (⟨rb, 1, none⟩, (.int .i64 (p : Int)))] wo.drew := hS1
      have hw4 : IntKind.i64.wrap ((p : Int) + 4) = (p : Int) + 4 := IntWalk.i64_in _ (by omega)
      have hw1 : IntKind.i64.wrap ((p : Int) + 1) = (p : Int) + 1 := IntWalk.i64_in _ (by omega)
      clear r1 r2 hkd
      by_cases hD0 : D = 0
      case pos =>
        have e1 : ((k : Int) == (p : Int)) = true := by rw [beq_iff_eq]; have := HKD.out; omega
        have HBD := Lib.hid (HBAD.out (.inl hD0))
        clear hD0
        --CUTA3
        refine wp_region_to (SC [(⟨rb, 0, none⟩, (.string s)), (⟨rb, 1, none⟩, (.int .i64 (p : Int)))]) 99 (fun a0 a' w' => ∃ v37 v38 v39 v40 v41 v42 v43 v44 v45 v46 v47 v48 v49 v50 v51 v52 v53 v54 v55 v56 v57 v58 v59 v60 v61 v62 v63 v64 v65 v66 v67 v68 v69 v70 v71, a' = puts a0 [(37, v37), (38, v38), (39, v39), (40, v40), (41, v41), (42, v42), (43, v43), (44, v44), (45, v45), (46, v46), (47, v47), (48, v48), (49, v49), (50, v50), (51, v51), (52, v52), (53, v53), (54, v54), (55, v55), (56, v56), (57, v57), (58, v58), (59, v59), (60, v60), (61, v61), (62, v62), (63, v63), (64, v64), (65, v65), (66, v66), (67, v67), (68, v68), (69, v69), (70, v70), (71, v71), (72, .bool true)] ∧ Below wo.heap.size wo w') (by kernel_rfl) ?_ ?_
        · intro Q' hR hQp
          have hb0 : Below wo.heap.size wo wo.drew := by (repeat' (first | with_reducible (first | exact Below.refl _ _ | assumption | refine Below.drew ?_ | refine Below_drewN ?_ _ | refine Below.alloc ?_ ?_ _ | refine Below.setCell ?_ ?_ _) | omega | (simp; done) | (simp; omega)))
          have hS : SC [(⟨rb, 0, none⟩, (.string s)), (⟨rb, 1, none⟩, (.int .i64 (p : Int)))] wo.drew := hS0
          generalize wo.drew = wa at *
          refine wpAnyK_takes hQp hS [0,1,2,3,4,5,6] ?_
          iterate 7 (refine takeK_cons _ rfl (by kernel_rfl) (yields_value (by kernel_rfl) (by intro w0 hw0; have hw1 := hw0; simp only [SC] at hw1; first | (go_simp; done) | (go_simp; rfl))) ?_; simp only [Act.put, List.getElem_toArray, List.getElem_cons_succ, List.getElem_cons_zero, List.setIfInBounds_toArray, List.set_cons_succ, List.set_cons_zero])
          refine takeK_nil ?_
          refine wpAnyK_take' (i := 7) undef rfl (by kernel_rfl) (fun _ _ _ h => hQp _ _ _ _ h) hS (.inr ⟨by kernel_rfl, rfl⟩) ?_; simp only [Act.put, List.getElem_toArray, List.getElem_cons_succ, List.getElem_cons_zero, List.setIfInBounds_toArray, List.set_cons_succ, List.set_cons_zero]
          refine wpAnyK_take' (i := 8) undef rfl (by kernel_rfl) (fun _ _ _ h => hQp _ _ _ _ h) hS (.inr ⟨by kernel_rfl, rfl⟩) ?_; simp only [Act.put, List.getElem_toArray, List.getElem_cons_succ, List.getElem_cons_zero, List.setIfInBounds_toArray, List.set_cons_succ, List.set_cons_zero]
          refine wpAnyK_take' (i := 9) undef rfl (by kernel_rfl) (fun _ _ _ h => hQp _ _ _ _ h) hS (.inr ⟨by kernel_rfl, rfl⟩) ?_; simp only [Act.put, List.getElem_toArray, List.getElem_cons_succ, List.getElem_cons_zero, List.setIfInBounds_toArray, List.set_cons_succ, List.set_cons_zero]
          refine wpAnyK_take' (i := 10) undef rfl (by kernel_rfl) (fun _ _ _ h => hQp _ _ _ _ h) hS (.inr ⟨by kernel_rfl, rfl⟩) ?_; simp only [Act.put, List.getElem_toArray, List.getElem_cons_succ, List.getElem_cons_zero, List.setIfInBounds_toArray, List.set_cons_succ, List.set_cons_zero]
          refine wpAnyK_take' (i := 11) undef rfl (by kernel_rfl) (fun _ _ _ h => hQp _ _ _ _ h) hS (.inr ⟨by kernel_rfl, rfl⟩) ?_; simp only [Act.put, List.getElem_toArray, List.getElem_cons_succ, List.getElem_cons_zero, List.setIfInBounds_toArray, List.set_cons_succ, List.set_cons_zero]
          refine wpAnyK_take' (i := 12) undef rfl (by kernel_rfl) (fun _ _ _ h => hQp _ _ _ _ h) hS (.inr ⟨by kernel_rfl, rfl⟩) ?_; simp only [Act.put, List.getElem_toArray, List.getElem_cons_succ, List.getElem_cons_zero, List.setIfInBounds_toArray, List.set_cons_succ, List.set_cons_zero]
          refine wpAnyK_take' (i := 13) undef rfl (by kernel_rfl) (fun _ _ _ h => hQp _ _ _ _ h) hS (.inr ⟨by kernel_rfl, rfl⟩) ?_; simp only [Act.put, List.getElem_toArray, List.getElem_cons_succ, List.getElem_cons_zero, List.setIfInBounds_toArray, List.set_cons_succ, List.set_cons_zero]
          refine wpAnyK_takes hQp hS [14,15] ?_
          iterate 2 (refine takeK_cons _ rfl (by kernel_rfl) (yields_value (by kernel_rfl) (by intro w0 hw0; have hw1 := hw0; simp only [SC] at hw1; first | (go_simp; done) | (go_simp; rfl))) ?_; simp only [Act.put, List.getElem_toArray, List.getElem_cons_succ, List.getElem_cons_zero, List.setIfInBounds_toArray, List.set_cons_succ, List.set_cons_zero])
          refine takeK_nil ?_
          refine wpAnyK_take' (i := 16) undef rfl (by kernel_rfl) (fun _ _ _ h => hQp _ _ _ _ h) hS (.inr ⟨by kernel_rfl, rfl⟩) ?_; simp only [Act.put, List.getElem_toArray, List.getElem_cons_succ, List.getElem_cons_zero, List.setIfInBounds_toArray, List.set_cons_succ, List.set_cons_zero]
          refine wpAnyK_take' (i := 17) undef rfl (by kernel_rfl) (fun _ _ _ h => hQp _ _ _ _ h) hS (.inr ⟨by kernel_rfl, rfl⟩) ?_; simp only [Act.put, List.getElem_toArray, List.getElem_cons_succ, List.getElem_cons_zero, List.setIfInBounds_toArray, List.set_cons_succ, List.set_cons_zero]
          refine wpAnyK_take' (i := 18) undef rfl (by kernel_rfl) (fun _ _ _ h => hQp _ _ _ _ h) hS (.inr ⟨by kernel_rfl, rfl⟩) ?_; simp only [Act.put, List.getElem_toArray, List.getElem_cons_succ, List.getElem_cons_zero, List.setIfInBounds_toArray, List.set_cons_succ, List.set_cons_zero]
          refine wpAnyK_take' (i := 19) undef rfl (by kernel_rfl) (fun _ _ _ h => hQp _ _ _ _ h) hS (.inr ⟨by kernel_rfl, rfl⟩) ?_; simp only [Act.put, List.getElem_toArray, List.getElem_cons_succ, List.getElem_cons_zero, List.setIfInBounds_toArray, List.set_cons_succ, List.set_cons_zero]
          refine wpAnyK_take' (i := 20) undef rfl (by kernel_rfl) (fun _ _ _ h => hQp _ _ _ _ h) hS (.inr ⟨by kernel_rfl, rfl⟩) ?_; simp only [Act.put, List.getElem_toArray, List.getElem_cons_succ, List.getElem_cons_zero, List.setIfInBounds_toArray, List.set_cons_succ, List.set_cons_zero]
          refine wpAnyK_take' (i := 21) undef rfl (by kernel_rfl) (fun _ _ _ h => hQp _ _ _ _ h) hS (.inr ⟨by kernel_rfl, rfl⟩) ?_; simp only [Act.put, List.getElem_toArray, List.getElem_cons_succ, List.getElem_cons_zero, List.setIfInBounds_toArray, List.set_cons_succ, List.set_cons_zero]
          refine wpAnyK_take' (i := 22) undef rfl (by kernel_rfl) (fun _ _ _ h => hQp _ _ _ _ h) hS (.inr ⟨by kernel_rfl, rfl⟩) ?_; simp only [Act.put, List.getElem_toArray, List.getElem_cons_succ, List.getElem_cons_zero, List.setIfInBounds_toArray, List.set_cons_succ, List.set_cons_zero]
          refine wpAnyK_take' (i := 23) undef rfl (by kernel_rfl) (fun _ _ _ h => hQp _ _ _ _ h) hS (.inr ⟨by kernel_rfl, rfl⟩) ?_; simp only [Act.put, List.getElem_toArray, List.getElem_cons_succ, List.getElem_cons_zero, List.setIfInBounds_toArray, List.set_cons_succ, List.set_cons_zero]
          refine wpAnyK_take' (i := 24) undef rfl (by kernel_rfl) (fun _ _ _ h => hQp _ _ _ _ h) hS (.inr ⟨by kernel_rfl, rfl⟩) ?_; simp only [Act.put, List.getElem_toArray, List.getElem_cons_succ, List.getElem_cons_zero, List.setIfInBounds_toArray, List.set_cons_succ, List.set_cons_zero]
          refine wpAnyK_take' (i := 28) undef rfl (by kernel_rfl) (fun _ _ _ h => hQp _ _ _ _ h) hS (.inr ⟨by kernel_rfl, rfl⟩) ?_; simp only [Act.put, List.getElem_toArray, List.getElem_cons_succ, List.getElem_cons_zero, List.setIfInBounds_toArray, List.set_cons_succ, List.set_cons_zero]
          refine wpAnyK_take' (i := 25) undef rfl (by kernel_rfl) (fun _ _ _ h => hQp _ _ _ _ h) hS (.inr ⟨by kernel_rfl, rfl⟩) ?_; simp only [Act.put, List.getElem_toArray, List.getElem_cons_succ, List.getElem_cons_zero, List.setIfInBounds_toArray, List.set_cons_succ, List.set_cons_zero]
          refine wpAnyK_take' (i := 29) undef rfl (by kernel_rfl) (fun _ _ _ h => hQp _ _ _ _ h) hS (.inr ⟨by kernel_rfl, rfl⟩) ?_; simp only [Act.put, List.getElem_toArray, List.getElem_cons_succ, List.getElem_cons_zero, List.setIfInBounds_toArray, List.set_cons_succ, List.set_cons_zero]
          refine wpAnyK_take' (i := 26) undef rfl (by kernel_rfl) (fun _ _ _ h => hQp _ _ _ _ h) hS (.inr ⟨by kernel_rfl, rfl⟩) ?_; simp only [Act.put, List.getElem_toArray, List.getElem_cons_succ, List.getElem_cons_zero, List.setIfInBounds_toArray, List.set_cons_succ, List.set_cons_zero]
          refine wpAnyK_take' (i := 30) undef rfl (by kernel_rfl) (fun _ _ _ h => hQp _ _ _ _ h) hS (.inr ⟨by kernel_rfl, rfl⟩) ?_; simp only [Act.put, List.getElem_toArray, List.getElem_cons_succ, List.getElem_cons_zero, List.setIfInBounds_toArray, List.set_cons_succ, List.set_cons_zero]
          refine wpAnyK_take' (i := 27) undef rfl (by kernel_rfl) (fun _ _ _ h => hQp _ _ _ _ h) hS (.inr ⟨by kernel_rfl, rfl⟩) ?_; simp only [Act.put, List.getElem_toArray, List.getElem_cons_succ, List.getElem_cons_zero, List.setIfInBounds_toArray, List.set_cons_succ, List.set_cons_zero]
          refine wpAnyK_take' (i := 31) undef rfl (by kernel_rfl) (fun _ _ _ h => hQp _ _ _ _ h) hS (.inr ⟨by kernel_rfl, rfl⟩) ?_; simp only [Act.put, List.getElem_toArray, List.getElem_cons_succ, List.getElem_cons_zero, List.setIfInBounds_toArray, List.set_cons_succ, List.set_cons_zero]
          refine wpAnyK_take' (i := 32) undef rfl (by kernel_rfl) (fun _ _ _ h => hQp _ _ _ _ h) hS (.inr ⟨by kernel_rfl, rfl⟩) ?_; simp only [Act.put, List.getElem_toArray, List.getElem_cons_succ, List.getElem_cons_zero, List.setIfInBounds_toArray, List.set_cons_succ, List.set_cons_zero]
          refine wpAnyK_take' (i := 33) undef rfl (by kernel_rfl) (fun _ _ _ h => hQp _ _ _ _ h) hS (.inr ⟨by kernel_rfl, rfl⟩) ?_; simp only [Act.put, List.getElem_toArray, List.getElem_cons_succ, List.getElem_cons_zero, List.setIfInBounds_toArray, List.set_cons_succ, List.set_cons_zero]
          refine wpAnyK_take' (i := 34) undef rfl (by kernel_rfl) (fun _ _ _ h => hQp _ _ _ _ h) hS (.inr ⟨by kernel_rfl, rfl⟩) ?_; simp only [Act.put, List.getElem_toArray, List.getElem_cons_succ, List.getElem_cons_zero, List.setIfInBounds_toArray, List.set_cons_succ, List.set_cons_zero]
          refine wpAnyK_takes hQp hS [35] ?_
          iterate 1 (refine takeK_cons _ rfl (by kernel_rfl) (yields_value (by kernel_rfl) (by intro w0 hw0; have hw1 := hw0; simp only [SC] at hw1; first | (go_simp; done) | (go_simp; rfl))) ?_; simp only [Act.put, List.getElem_toArray, List.getElem_cons_succ, List.getElem_cons_zero, List.setIfInBounds_toArray, List.set_cons_succ, List.set_cons_zero])
          refine takeK_nil ?_
          refine wpAnyK_done (by kernel_rfl) ?_ _
          refine hR _ _ ?_
          iterate 35 apply Exists.intro
          refine ⟨?_, hb0⟩
          simp only [puts, Act.put, List.setIfInBounds_toArray, List.set_cons_succ, List.set_cons_zero]
          rfl
        rintro a' w8 ⟨v37, v38, v39, v40, v41, v42, v43, v44, v45, v46, v47, v48, v49, v50, v51, v52, v53, v54, v55, v56, v57, v58, v59, v60, v61, v62, v63, v64, v65, v66, v67, v68, v69, v70, v71, rfl, hb8⟩
        simp only [puts, Act.put, List.setIfInBounds_toArray, List.set_cons_succ, List.set_cons_zero]
        rename World => w1
        have h2 := h1.under hb8
        obtain ⟨r3, r4⟩ := h2.cells
        have hrl2 := h2.lt
        have h3 := h2.set 2 (.bool true)
        simp only [List.setIfInBounds_toArray, List.set_cons_succ, List.set_cons_zero] at h3
        have hF : Frm (fun k => k ≠ rb) B w (w1.setCell ⟨rb, 2, none⟩ (.bool true)) := (Frm.of (hb.trans (hb8.mono hb.size)) (by omega)).trans (Frm.set (a := ⟨rb, 2, none⟩) (fun h => h rfl) hB _)
        clear hS0 e1
        go_wp2
        go_ret
        exact ⟨0, p, true, rfl, h3, hF, HBD.out⟩
      case neg =>
        have e1 : ((k : Int) == (p : Int)) = false := by rw [beq_eq_false_iff_ne]; have := HKD.out; omega
        by_cases hD4 : 4 < D
        case pos =>
          have e2 : (p : Int) + 4 < (k : Int) := by have := HKD.out; omega
          have HBD := Lib.hid (HBAD.out (.inr (.inl hD4)))
          clear hD0
          --CUTB3
          refine wp_region_to (SC [(⟨rb, 0, none⟩, (.string s)), (⟨rb, 1, none⟩, (.int .i64 (p : Int)))]) 99 (fun a0 a' w' => ∃ v37 v38 v39 v40 v41 v42 v43 v44 v45 v46 v47 v48 v49 v50 v51 v52 v53 v54 v55 v56 v57 v58 v59 v60 v61 v62 v63 v64 v65 v66 v67 v68 v69 v70 v71, a' = puts a0 [(37, v37), (38, v38), (39, v39), (40, v40), (41, v41), (42, v42), (43, v43), (44, v44), (45, v45), (46, v46), (47, v47), (48, v48), (49, v49), (50, v50), (51, v51), (52, v52), (53, v53), (54, v54), (55, v55), (56, v56), (57, v57), (58, v58), (59, v59), (60, v60), (61, v61), (62, v62), (63, v63), (64, v64), (65, v65), (66, v66), (67, v67), (68, v68), (69, v69), (70, v70), (71, v71), (72, .bool true)] ∧ Below wo.heap.size wo w') (by kernel_rfl) ?_ ?_
          · intro Q' hR hQp
            have hb0 : Below wo.heap.size wo wo.drew := by (repeat' (first | with_reducible (first | exact Below.refl _ _ | assumption | refine Below.drew ?_ | refine Below_drewN ?_ _ | refine Below.alloc ?_ ?_ _ | refine Below.setCell ?_ ?_ _) | omega | (simp; done) | (simp; omega)))
            have hS : SC [(⟨rb, 0, none⟩, (.string s)), (⟨rb, 1, none⟩, (.int .i64 (p : Int)))] wo.drew := hS0
            generalize wo.drew = wa at *
            refine wpAnyK_takes hQp hS [0,1,2,3,4,5,6] ?_
            iterate 7 (refine takeK_cons _ rfl (by kernel_rfl) (yields_value (by kernel_rfl) (by intro w0 hw0; have hw1 := hw0; simp only [SC] at hw1; first | (go_simp; done) | (go_simp; rfl))) ?_; simp only [Act.put, List.getElem_toArray, List.getElem_cons_succ, List.getElem_cons_zero, List.setIfInBounds_toArray, List.set_cons_succ, List.set_cons_zero])
            refine takeK_nil ?_
            refine wpAnyK_takes hQp hS [7,8,9,10,11,12,13] ?_
            iterate 7 (refine takeK_cons _ rfl (by kernel_rfl) (yields_value (by kernel_rfl) (by intro w0 hw0; have hw1 := hw0; simp only [SC] at hw1; first | (go_simp; done) | (go_simp; rfl))) ?_; simp only [Act.put, List.getElem_toArray, List.getElem_cons_succ, List.getElem_cons_zero, List.setIfInBounds_toArray, List.set_cons_succ, List.set_cons_zero])
            refine takeK_nil ?_
            refine wpAnyK_takes hQp hS [14,15] ?_
            iterate 2 (refine takeK_cons _ rfl (by kernel_rfl) (yields_value (by kernel_rfl) (by intro w0 hw0; have hw1 := hw0; simp only [SC] at hw1; first | (go_simp; done) | (go_simp; rfl))) ?_; simp only [Act.put, List.getElem_toArray, List.getElem_cons_succ, List.getElem_cons_zero, List.setIfInBounds_toArray, List.set_cons_succ, List.set_cons_zero])
            refine takeK_nil ?_
            refine wpAnyK_take' (i := 16) undef rfl (by kernel_rfl) (fun _ _ _ h => hQp _ _ _ _ h) hS (.inr ⟨by kernel_rfl, rfl⟩) ?_; simp only [Act.put, List.getElem_toArray, List.getElem_cons_succ, List.getElem_cons_zero, List.setIfInBounds_toArray, List.set_cons_succ, List.set_cons_zero]
            refine wpAnyK_take' (i := 17) undef rfl (by kernel_rfl) (fun _ _ _ h => hQp _ _ _ _ h) hS (.inr ⟨by kernel_rfl, rfl⟩) ?_; simp only [Act.put, List.getElem_toArray, List.getElem_cons_succ, List.getElem_cons_zero, List.setIfInBounds_toArray, List.set_cons_succ, List.set_cons_zero]
            refine wpAnyK_take' (i := 18) undef rfl (by kernel_rfl) (fun _ _ _ h => hQp _ _ _ _ h) hS (.inr ⟨by kernel_rfl, rfl⟩) ?_; simp only [Act.put, List.getElem_toArray, List.getElem_cons_succ, List.getElem_cons_zero, List.setIfInBounds_toArray, List.set_cons_succ, List.set_cons_zero]
            refine wpAnyK_take' (i := 19) undef rfl (by kernel_rfl) (fun _ _ _ h => hQp _ _ _ _ h) hS (.inr ⟨by kernel_rfl, rfl⟩) ?_; simp only [Act.put, List.getElem_toArray, List.getElem_cons_succ, List.getElem_cons_zero, List.setIfInBounds_toArray, List.set_cons_succ, List.set_cons_zero]
            refine wpAnyK_take' (i := 20) undef rfl (by kernel_rfl) (fun _ _ _ h => hQp _ _ _ _ h) hS (.inr ⟨by kernel_rfl, rfl⟩) ?_; simp only [Act.put, List.getElem_toArray, List.getElem_cons_succ, List.getElem_cons_zero, List.setIfInBounds_toArray, List.set_cons_succ, List.set_cons_zero]
            refine wpAnyK_take' (i := 21) undef rfl (by kernel_rfl) (fun _ _ _ h => hQp _ _ _ _ h) hS (.inr ⟨by kernel_rfl, rfl⟩) ?_; simp only [Act.put, List.getElem_toArray, List.getElem_cons_succ, List.getElem_cons_zero, List.setIfInBounds_toArray, List.set_cons_succ, List.set_cons_zero]
            refine wpAnyK_take' (i := 22) undef rfl (by kernel_rfl) (fun _ _ _ h => hQp _ _ _ _ h) hS (.inr ⟨by kernel_rfl, rfl⟩) ?_; simp only [Act.put, List.getElem_toArray, List.getElem_cons_succ, List.getElem_cons_zero, List.setIfInBounds_toArray, List.set_cons_succ, List.set_cons_zero]
            refine wpAnyK_take' (i := 23) undef rfl (by kernel_rfl) (fun _ _ _ h => hQp _ _ _ _ h) hS (.inr ⟨by kernel_rfl, rfl⟩) ?_; simp only [Act.put, List.getElem_toArray, List.getElem_cons_succ, List.getElem_cons_zero, List.setIfInBounds_toArray, List.set_cons_succ, List.set_cons_zero]
            refine wpAnyK_take' (i := 24) undef rfl (by kernel_rfl) (fun _ _ _ h => hQp _ _ _ _ h) hS (.inr ⟨by kernel_rfl, rfl⟩) ?_; simp only [Act.put, List.getElem_toArray, List.getElem_cons_succ, List.getElem_cons_zero, List.setIfInBounds_toArray, List.set_cons_succ, List.set_cons_zero]
            refine wpAnyK_take' (i := 28) undef rfl (by kernel_rfl) (fun _ _ _ h => hQp _ _ _ _ h) hS (.inr ⟨by kernel_rfl, rfl⟩) ?_; simp only [Act.put, List.getElem_toArray, List.getElem_cons_succ, List.getElem_cons_zero, List.setIfInBounds_toArray, List.set_cons_succ, List.set_cons_zero]
            refine wpAnyK_take' (i := 25) undef rfl (by kernel_rfl) (fun _ _ _ h => hQp _ _ _ _ h) hS (.inr ⟨by kernel_rfl, rfl⟩) ?_; simp only [Act.put, List.getElem_toArray, List.getElem_cons_succ, List.getElem_cons_zero, List.setIfInBounds_toArray, List.set_cons_succ, List.set_cons_zero]
            refine wpAnyK_take' (i := 29) undef rfl (by kernel_rfl) (fun _ _ _ h => hQp _ _ _ _ h) hS (.inr ⟨by kernel_rfl, rfl⟩) ?_; simp only [Act.put, List.getElem_toArray, List.getElem_cons_succ, List.getElem_cons_zero, List.setIfInBounds_toArray, List.set_cons_succ, List.set_cons_zero]
            refine wpAnyK_take' (i := 26) undef rfl (by kernel_rfl) (fun _ _ _ h => hQp _ _ _ _ h) hS (.inr ⟨by kernel_rfl, rfl⟩) ?_; simp only [Act.put, List.getElem_toArray, List.getElem_cons_succ, List.getElem_cons_zero, List.setIfInBounds_toArray, List.set_cons_succ, List.set_cons_zero]
            refine wpAnyK_take' (i := 30) undef rfl (by kernel_rfl) (fun _ _ _ h => hQp _ _ _ _ h) hS (.inr ⟨by kernel_rfl, rfl⟩) ?_; simp only [Act.put, List.getElem_toArray, List.getElem_cons_succ, List.getElem_cons_zero, List.setIfInBounds_toArray, List.set_cons_succ, List.set_cons_zero]
            refine wpAnyK_take' (i := 27) undef rfl (by kernel_rfl) (fun _ _ _ h => hQp _ _ _ _ h) hS (.inr ⟨by kernel_rfl, rfl⟩) ?_; simp only [Act.put, List.getElem_toArray, List.getElem_cons_succ, List.getElem_cons_zero, List.setIfInBounds_toArray, List.set_cons_succ, List.set_cons_zero]
            refine wpAnyK_take' (i := 31) undef rfl (by kernel_rfl) (fun _ _ _ h => hQp _ _ _ _ h) hS (.inr ⟨by kernel_rfl, rfl⟩) ?_; simp only [Act.put, List.getElem_toArray, List.getElem_cons_succ, List.getElem_cons_zero, List.setIfInBounds_toArray, List.set_cons_succ, List.set_cons_zero]
            refine wpAnyK_take' (i := 32) undef rfl (by kernel_rfl) (fun _ _ _ h => hQp _ _ _ _ h) hS (.inr ⟨by kernel_rfl, rfl⟩) ?_; simp only [Act.put, List.getElem_toArray, List.getElem_cons_succ, List.getElem_cons_zero, List.setIfInBounds_toArray, List.set_cons_succ, List.set_cons_zero]
            refine wpAnyK_take' (i := 33) undef rfl (by kernel_rfl) (fun _ _ _ h => hQp _ _ _ _ h) hS (.inr ⟨by kernel_rfl, rfl⟩) ?_; simp only [Act.put, List.getElem_toArray, List.getElem_cons_succ, List.getElem_cons_zero, List.setIfInBounds_toArray, List.set_cons_succ, List.set_cons_zero]
            refine wpAnyK_take' (i := 34) undef rfl (by kernel_rfl) (fun _ _ _ h => hQp _ _ _ _ h) hS (.inr ⟨by kernel_rfl, rfl⟩) ?_; simp only [Act.put, List.getElem_toArray, List.getElem_cons_succ, List.getElem_cons_zero, List.setIfInBounds_toArray, List.set_cons_succ, List.set_cons_zero]
            refine wpAnyK_takes hQp hS [35] ?_
            iterate 1 (refine takeK_cons _ rfl (by kernel_rfl) (yields_value (by kernel_rfl) (by intro w0 hw0; have hw1 := hw0; simp only [SC] at hw1; first | (go_simp; done) | (go_simp; rfl))) ?_; simp only [Act.put, List.getElem_toArray, List.getElem_cons_succ, List.getElem_cons_zero, List.setIfInBounds_toArray, List.set_cons_succ, List.set_cons_zero])
            refine takeK_nil ?_
            refine wpAnyK_done (by kernel_rfl) ?_ _
            refine hR _ _ ?_
            iterate 35 apply Exists.intro
            refine ⟨?_, hb0⟩
            simp only [puts, Act.put, List.setIfInBounds_toArray, List.set_cons_succ, List.set_cons_zero]
            rfl
          rintro a' w8 ⟨v37, v38, v39, v40, v41, v42, v43, v44, v45, v46, v47, v48, v49, v50, v51, v52, v53, v54, v55, v56, v57, v58, v59, v60, v61, v62, v63, v64, v65, v66, v67, v68, v69, v70, v71, rfl, hb8⟩
          simp only [puts, Act.put, List.setIfInBounds_toArray, List.set_cons_succ, List.set_cons_zero]
          rename World => w1
          have h2 := h1.under hb8
          obtain ⟨r3, r4⟩ := h2.cells
          have hrl2 := h2.lt
          have h3 := h2.set 2 (.bool true)
          simp only [List.setIfInBounds_toArray, List.set_cons_succ, List.set_cons_zero] at h3
          have hF : Frm (fun k => k ≠ rb) B w (w1.setCell ⟨rb, 2, none⟩ (.bool true)) := (Frm.of (hb.trans (hb8.mono hb.size)) (by omega)).trans (Frm.set (a := ⟨rb, 2, none⟩) (fun h => h rfl) hB _)
          clear hS0 e1 e2
          go_wp2
          go_ret
          exact ⟨0, p, true, rfl, h3, hF, HBD.out⟩
        case neg =>
          have e2 : ¬ (p : Int) + 4 < (k : Int) := by have := HKD.out; omega
          by_cases hD1 : 1 < D
          case pos =>
            have e3 : (p : Int) + 1 < (k : Int) := by have := HKD.out; omega
            have hps : p < s.size := by have := HKD.out; omega
            have b5 : (p : Int) < (s.size : Int) := by omega
            have b6 : (0 : Int) ≤ (p : Int) := by omega
            have hatp := HAT.out p hps
            by_cases hz : (s[p]'hps).toNat = 48
            case pos =>
              have e4 : (((s[p]'hps).toNat : Int) == 48) = true := by rw [beq_iff_eq]; omega
              have HBD := Lib.hid (HBAD.out (.inr (.inr ⟨hD1, by rw [hatp, show s[p]'hps = 48 from UInt8.toNat_inj.1 hz]⟩)))
              clear hD0 hatp
              --CUTC3
              refine wp_region_to (SC [(⟨rb, 0, none⟩, (.string s)), (⟨rb, 1, none⟩, (.int .i64 (p : Int)))]) 99 (fun a0 a' w' => ∃ v37 v38 v39 v40 v41 v42 v43 v44 v45 v46 v47 v48 v49 v50 v51 v52 v53 v54 v55 v56 v57 v58 v59 v60 v61 v62 v63 v64 v65 v66 v67 v68 v69 v70 v71, a' = puts a0 [(37, v37), (38, v38), (39, v39), (40, v40), (41, v41), (42, v42), (43, v43), (44, v44), (45, v45), (46, v46), (47, v47), (48, v48), (49, v49), (50, v50), (51, v51), (52, v52), (53, v53), (54, v54), (55, v55), (56, v56), (57, v57), (58, v58), (59, v59), (60, v60), (61, v61), (62, v62), (63, v63), (64, v64), (65, v65), (66, v66), (67, v67), (68, v68), (69, v69), (70, v70), (71, v71), (72, .bool true)] ∧ Below wo.heap.size wo w') (by kernel_rfl) ?_ ?_
              · intro Q' hR hQp
                have hb0 : Below wo.heap.size wo wo.drew := by (repeat' (first | with_reducible (first | exact Below.refl _ _ | assumption | refine Below.drew ?_ | refine Below_drewN ?_ _ | refine Below.alloc ?_ ?_ _ | refine Below.setCell ?_ ?_ _) | omega | (simp; done) | (simp; omega)))
                have hS : SC [(⟨rb, 0, none⟩, (.string s)), (⟨rb, 1, none⟩, (.int .i64 (p : Int)))] wo.drew := hS0
                generalize wo.drew = wa at *
                refine wpAnyK_takes hQp hS [0,1,2,3,4,5,6] ?_
                iterate 7 (refine takeK_cons _ rfl (by kernel_rfl) (yields_value (by kernel_rfl) (by intro w0 hw0; have hw1 := hw0; simp only [SC] at hw1; first | (go_simp; done) | (go_simp; rfl))) ?_; simp only [Act.put, List.getElem_toArray, List.getElem_cons_succ, List.getElem_cons_zero, List.setIfInBounds_toArray, List.set_cons_succ, List.set_cons_zero])
                refine takeK_nil ?_
                refine wpAnyK_takes hQp hS [7,8,9,10,11,12,13] ?_
                iterate 7 (refine takeK_cons _ rfl (by kernel_rfl) (yields_value (by kernel_rfl) (by intro w0 hw0; have hw1 := hw0; simp only [SC] at hw1; first | (go_simp; done) | (go_simp; rfl))) ?_; simp only [Act.put, List.getElem_toArray, List.getElem_cons_succ, List.getElem_cons_zero, List.setIfInBounds_toArray, List.set_cons_succ, List.set_cons_zero])
                refine takeK_nil ?_
                refine wpAnyK_takes hQp hS [14,15] ?_
                iterate 2 (refine takeK_cons _ rfl (by kernel_rfl) (yields_value (by kernel_rfl) (by intro w0 hw0; have hw1 := hw0; simp only [SC] at hw1; first | (go_simp; done) | (go_simp; rfl))) ?_; simp only [Act.put, List.getElem_toArray, List.getElem_cons_succ, List.getElem_cons_zero, List.setIfInBounds_toArray, List.set_cons_succ, List.set_cons_zero])
                refine takeK_nil ?_
                refine wpAnyK_takes hQp hS [16,17,18,19,20,21,22,23] ?_
                iterate 8 (refine takeK_cons _ rfl (by kernel_rfl) (yields_value (by kernel_rfl) (by intro w0 hw0; have hw1 := hw0; simp only [SC] at hw1; first | (go_simp; done) | (go_simp; rfl))) ?_; simp only [Act.put, List.getElem_toArray, List.getElem_cons_succ, List.getElem_cons_zero, List.setIfInBounds_toArray, List.set_cons_succ, List.set_cons_zero])
                refine takeK_nil ?_
                refine wpAnyK_takes hQp hS [24,28,25,29,26,30,27,31,32,33,34] ?_
                iterate 11 (refine takeK_cons _ rfl (by kernel_rfl) (yields_value (by kernel_rfl) (by intro w0 hw0; have hw1 := hw0; simp only [SC] at hw1; first | (go_simp; done) | (go_simp; rfl))) ?_; simp only [Act.put, List.getElem_toArray, List.getElem_cons_succ, List.getElem_cons_zero, List.setIfInBounds_toArray, List.set_cons_succ, List.set_cons_zero])
                refine takeK_nil ?_
                refine wpAnyK_takes hQp hS [35] ?_
                iterate 1 (refine takeK_cons _ rfl (by kernel_rfl) (yields_value (by kernel_rfl) (by intro w0 hw0; have hw1 := hw0; simp only [SC] at hw1; first | (go_simp; done) | (go_simp; rfl))) ?_; simp only [Act.put, List.getElem_toArray, List.getElem_cons_succ, List.getElem_cons_zero, List.setIfInBounds_toArray, List.set_cons_succ, List.set_cons_zero])
                refine takeK_nil ?_
                refine wpAnyK_done (by kernel_rfl) ?_ _
                refine hR _ _ ?_
                iterate 35 apply Exists.intro
                refine ⟨?_, hb0⟩
                simp only [puts, Act.put, List.setIfInBounds_toArray, List.set_cons_succ, List.set_cons_zero]
                rfl
              rintro a' w8 ⟨v37, v38, v39, v40, v41, v42, v43, v44, v45, v46, v47, v48, v49, v50, v51, v52, v53, v54, v55, v56, v57, v58, v59, v60, v61, v62, v63, v64, v65, v66, v67, v68, v69, v70, v71, rfl, hb8⟩
              simp only [puts, Act.put, List.setIfInBounds_toArray, List.set_cons_succ, List.set_cons_zero]
              rename World => w1
              have h2 := h1.under hb8
              obtain ⟨r3, r4⟩ := h2.cells
              have hrl2 := h2.lt
              have h3 := h2.set 2 (.bool true)
              simp only [List.setIfInBounds_toArray, List.set_cons_succ, List.set_cons_zero] at h3
              have hF : Frm (fun k => k ≠ rb) B w (w1.setCell ⟨rb, 2, none⟩ (.bool true)) := (Frm.of (hb.trans (hb8.mono hb.size)) (by omega)).trans (Frm.set (a := ⟨rb, 2, none⟩) (fun h => h rfl) hB _)
              clear hS0 e1 e2 e3 e4
              go_wp2
              go_ret
              exact ⟨0, p, true, rfl, h3, hF, HBD.out⟩
            case neg =>
              have e4 : (((s[p]'hps).toNat : Int) == 48) = false := by rw [beq_eq_false_iff_ne]; omega
              have hgd := HGOOD.out hD0 hD4 (fun e => hz (by have h9 := e.2; rw [hatp] at h9; have := Option.some.inj h9; rw [this]; rfl))
              rw [← HKD.out] at hgd
              have HGD := Lib.hid hgd
              have HMID : Hid ((s.extract p k).data.toList = (s.data.toList.drop p).take D) := Lib.hid (by rw [str_mid, show k - p = D by have := HKD.out; omega])
              have HSZ : Hid ((s.extract p k).size ≤ 18) := Lib.hid (by rw [← str_len, HMID.out, List.length_take]; omega)
              clear hD0 hatp hgd
              --CUTD3
              refine wp_region_to (SC [(⟨rb, 0, none⟩, (.string s)), (⟨rb, 1, none⟩, (.int .i64 (p : Int)))]) 99 (fun a0 a' w' => ∃ v37 v38 v39 v40 v41 v42 v43 v44 v45 v46 v47 v48 v49 v50 v51 v52 v53 v54 v55 v56 v57 v58 v59 v60 v61 v62 v63 v64 v65 v66 v67 v68 v69 v70 v71, a' = puts a0 [(37, v37), (38, v38), (39, v39), (40, v40), (41, v41), (42, v42), (43, v43), (44, v44), (45, v45), (46, v46), (47, v47), (48, v48), (49, v49), (50, v50), (51, v51), (52, v52), (53, v53), (54, v54), (55, v55), (56, v56), (57, v57), (58, v58), (59, v59), (60, v60), (61, v61), (62, v62), (63, v63), (64, v64), (65, v65), (66, v66), (67, v67), (68, v68), (69, v69), (70, v70), (71, v71), (72, .bool false)] ∧ Below wo.heap.size wo w') (by kernel_rfl) ?_ ?_
              · intro Q' hR hQp
                have hb0 : Below wo.heap.size wo wo.drew := by (repeat' (first | with_reducible (first | exact Below.refl _ _ | assumption | refine Below.drew ?_ | refine Below_drewN ?_ _ | refine Below.alloc ?_ ?_ _ | refine Below.setCell ?_ ?_ _) | omega | (simp; done) | (simp; omega)))
                have hS : SC [(⟨rb, 0, none⟩, (.string s)), (⟨rb, 1, none⟩, (.int .i64 (p : Int)))] wo.drew := hS0
                generalize wo.drew = wa at *
                refine wpAnyK_takes hQp hS [0,1,2,3,4,5,6] ?_
                iterate 7 (refine takeK_cons _ rfl (by kernel_rfl) (yields_value (by kernel_rfl) (by intro w0 hw0; have hw1 := hw0; simp only [SC] at hw1; first | (go_simp; done) | (go_simp; rfl))) ?_; simp only [Act.put, List.getElem_toArray, List.getElem_cons_succ, List.getElem_cons_zero, List.setIfInBounds_toArray, List.set_cons_succ, List.set_cons_zero])
                refine takeK_nil ?_
                refine wpAnyK_takes hQp hS [7,8,9,10,11,12,13] ?_
                iterate 7 (refine takeK_cons _ rfl (by kernel_rfl) (yields_value (by kernel_rfl) (by intro w0 hw0; have hw1 := hw0; simp only [SC] at hw1; first | (go_simp; done) | (go_simp; rfl))) ?_; simp only [Act.put, List.getElem_toArray, List.getElem_cons_succ, List.getElem_cons_zero, List.setIfInBounds_toArray, List.set_cons_succ, List.set_cons_zero])
                refine takeK_nil ?_
                refine wpAnyK_takes hQp hS [14,15] ?_
                iterate 2 (refine takeK_cons _ rfl (by kernel_rfl) (yields_value (by kernel_rfl) (by intro w0 hw0; have hw1 := hw0; simp only [SC] at hw1; first | (go_simp; done) | (go_simp; rfl))) ?_; simp only [Act.put, List.getElem_toArray, List.getElem_cons_succ, List.getElem_cons_zero, List.setIfInBounds_toArray, List.set_cons_succ, List.set_cons_zero])
                refine takeK_nil ?_
                refine wpAnyK_takes hQp hS [16,17,18,19,20,21,22,23] ?_
                iterate 8 (refine takeK_cons _ rfl (by kernel_rfl) (yields_value (by kernel_rfl) (by intro w0 hw0; have hw1 := hw0; simp only [SC] at hw1; first | (go_simp; done) | (go_simp; rfl))) ?_; simp only [Act.put, List.getElem_toArray, List.getElem_cons_succ, List.getElem_cons_zero, List.setIfInBounds_toArray, List.set_cons_succ, List.set_cons_zero])
                refine takeK_nil ?_
                refine wpAnyK_takes hQp hS [24,28,25,29,26,30,27,31,32,33,34] ?_
                iterate 11 (refine takeK_cons _ rfl (by kernel_rfl) (yields_value (by kernel_rfl) (by intro w0 hw0; have hw1 := hw0; simp only [SC] at hw1; first | (go_simp; done) | (go_simp; rfl))) ?_; simp only [Act.put, List.getElem_toArray, List.getElem_cons_succ, List.getElem_cons_zero, List.setIfInBounds_toArray, List.set_cons_succ, List.set_cons_zero])
                refine takeK_nil ?_
                refine wpAnyK_takes hQp hS [35] ?_
                iterate 1 (refine takeK_cons _ rfl (by kernel_rfl) (yields_value (by kernel_rfl) (by intro w0 hw0; have hw1 := hw0; simp only [SC] at hw1; first | (go_simp; done) | (go_simp; rfl))) ?_; simp only [Act.put, List.getElem_toArray, List.getElem_cons_succ, List.getElem_cons_zero, List.setIfInBounds_toArray, List.set_cons_succ, List.set_cons_zero])
                refine takeK_nil ?_
                refine wpAnyK_done (by kernel_rfl) ?_ _
                refine hR _ _ ?_
                iterate 35 apply Exists.intro
                refine ⟨?_, hb0⟩
                simp only [puts, Act.put, List.setIfInBounds_toArray, List.set_cons_succ, List.set_cons_zero]
                rfl
              rintro a' w8 ⟨v37, v38, v39, v40, v41, v42, v43, v44, v45, v46, v47, v48, v49, v50, v51, v52, v53, v54, v55, v56, v57, v58, v59, v60, v61, v62, v63, v64, v65, v66, v67, v68, v69, v70, v71, rfl, hb8⟩
              simp only [puts, Act.put, List.setIfInBounds_toArray, List.set_cons_succ, List.set_cons_zero]
              rename World => w1
              have h2 := h1.under hb8
              have hbw := hb.trans (hb8.mono hb.size)
              obtain ⟨r3, r4⟩ := h2.cells
              have hrl2 := h2.lt
              clear hS0 e1 e2 e3 e4
              have hS3 : SC [(⟨rb, 0, none⟩, (.string s)), (⟨rb, 1, none⟩, (.int .i64 (p : Int)))] w1 := ⟨h2.cells.1 0, h2.cells.1 1, trivial⟩
              have hS0 : SC [(⟨rb, 0, none⟩, (.string s)), (⟨rb, 1, none⟩, (.int .i64 (p : Int)))] w1.drew := hS3
              go_upto_region 7 with fail
              clear r3 r4
              have g0 : (0 : Int) ≤ (p : Int) := by omega
              have g1 : (p : Int) ≤ (k : Int) := by omega
              have g2 : (k : Int) ≤ (s.size : Int) := by have := HKD.out; omega
              --CUTF3D
              refine wp_region_to (SC [(⟨rb, 0, none⟩, (.string s)), (⟨rb, 1, none⟩, (.int .i64 (p : Int)))]) 99 (fun a0 a' w' => ∃ v76 v77 v78 v79 v80 v81 v82 v83 v84 v85 v86 v87 v88 v89, a' = puts a0 [(76, v76), (77, v77), (78, v78), (79, v79), (80, v80), (81, v81), (82, v82), (83, v83), (84, v84), (85, v85), (86, v86), (87, v87), (88, v88), (89, v89), (4, .int .i64 ((decVal ((s.data.toList.drop p).take D) : Nat) : Int)), (5, .nilIface)] ∧ Below w1.heap.size w1 w') (by kernel_rfl) ?_ ?_
              · intro Q' hR hQp
                have hb0 : Below w1.heap.size w1 w1.drew := by (repeat' (first | with_reducible (first | exact Below.refl _ _ | assumption | refine Below.drew ?_ | refine Below_drewN ?_ _ | refine Below.alloc ?_ ?_ _ | refine Below.setCell ?_ ?_ _) | omega | (simp; done) | (simp; omega)))
                have hS : SC [(⟨rb, 0, none⟩, (.string s)), (⟨rb, 1, none⟩, (.int .i64 (p : Int)))] w1.drew := hS0
                generalize w1.drew = wa at *
                refine wpAnyK_takes hQp hS [0,4,8,1,5,2,6,3,7,9] ?_
                iterate 10 (refine takeK_cons _ rfl (by kernel_rfl) (yields_value (by kernel_rfl) (by intro w0 hw0; have hw1 := hw0; simp only [SC] at hw1; first | (go_simp; done) | (go_simp; rfl))) ?_; simp only [Act.put, List.getElem_toArray, List.getElem_cons_succ, List.getElem_cons_zero, List.setIfInBounds_toArray, List.set_cons_succ, List.set_cons_zero])
                refine takeK_nil ?_
                --CUTG3D
                clear hS
                refine wpAnyK_call (i := 10) rfl (by kernel_rfl) (by kernel_rfl) fun K10 hK10 => ?_
                go_simp
                go_wp2_with fail
                --CUTH3D
                refine (Tryd.strconv_Atoi (s.extract p k) _ HSZ.out (by rw [HMID.out]; exact HGD.out.2) _).mono ?_
                rintro e wb ⟨rfl, tt, rfl⟩
                have hbx := Lib.bytesWorld_below wa 5 tt
                have hbz := hb0.trans (hbx.mono hb0.size)
                go_wp2_with fail
                have hS : _ := SC.later hbz hS3
                refine hK10 _ _ (fun _ => hS) ?_
                clear hK10
                refine wpAnyK_takes hQp hS [11,12,13,14,15] ?_
                iterate 5 (refine takeK_cons _ rfl (by kernel_rfl) (yields_value (by kernel_rfl) (by intro w0 hw0; have hw1 := hw0; simp only [SC] at hw1; first | (go_simp; done) | (go_simp; rfl))) ?_; simp only [Act.put, List.getElem_toArray, List.getElem_cons_succ, List.getElem_cons_zero, List.setIfInBounds_toArray, List.set_cons_succ, List.set_cons_zero])
                refine takeK_nil ?_
                refine wpAnyK_done (by kernel_rfl) ?_ _
                refine hR _ _ ?_
                iterate 14 apply Exists.intro
                refine ⟨?_, hbz⟩
                simp only [puts, Act.put, List.setIfInBounds_toArray, List.set_cons_succ, List.set_cons_zero]
                rfl
              rintro a' w8 ⟨v76, v77, v78, v79, v80, v81, v82, v83, v84, v85, v86, v87, v88, v89, rfl, hb8⟩
              simp only [puts, Act.put, List.setIfInBounds_toArray, List.set_cons_succ, List.set_cons_zero]
              rename World => w2
              have h4 := h2.under hb8
              obtain ⟨r3, r4⟩ := h4.cells
              have hrl4 := h4.lt
              have h5 := h4.set 1 (.int .i64 (k : Int))
              simp only [List.setIfInBounds_toArray, List.set_cons_succ, List.set_cons_zero] at h5
              have hF : Frm (fun k => k ≠ rb) B w (w2.setCell ⟨rb, 1, none⟩ (.int .i64 (k : Int))) := (Frm.of (hbw.trans (hb8.mono hbw.size)) (by omega)).trans (Frm.set (a := ⟨rb, 1, none⟩) (fun h => h rfl) hB _)
              clear hS0 hS3
              go_wp2
              go_ret
              exact ⟨_, k, false, rfl, h5, hF, HGD.out.1⟩
          case neg =>
            have e3 : ¬ (p : Int) + 1 < (k : Int) := by have := HKD.out; omega
            have hgd := HGOOD.out hD0 hD4 (fun e => hD1 e.1)
            rw [← HKD.out] at hgd
            have HGD := Lib.hid hgd
            have HMID : Hid ((s.extract p k).data.toList = (s.data.toList.drop p).take D) := Lib.hid (by rw [str_mid, show k - p = D by have := HKD.out; omega])
            have HSZ : Hid ((s.extract p k).size ≤ 18) := Lib.hid (by rw [← str_len, HMID.out, List.length_take]; omega)
            clear hD0 hgd
            --CUTE3
            refine wp_region_to (SC [(⟨rb, 0, none⟩, (.string s)), (⟨rb, 1, none⟩, (.int .i64 (p : Int)))]) 99 (fun a0 a' w' => ∃ v37 v38 v39 v40 v41 v42 v43 v44 v45 v46 v47 v48 v49 v50 v51 v52 v53 v54 v55 v56 v57 v58 v59 v60 v61 v62 v63 v64 v65 v66 v67 v68 v69 v70 v71, a' = puts a0 [(37, v37), (38, v38), (39, v39), (40, v40), (41, v41), (42, v42), (43, v43), (44, v44), (45, v45), (46, v46), (47, v47), (48, v48), (49, v49), (50, v50), (51, v51), (52, v52), (53, v53), (54, v54), (55, v55), (56, v56), (57, v57), (58, v58), (59, v59), (60, v60), (61, v61), (62, v62), (63, v63), (64, v64), (65, v65), (66, v66), (67, v67), (68, v68), (69, v69), (70, v70), (71, v71), (72, .bool false)] ∧ Below wo.heap.size wo w') (by kernel_rfl) ?_ ?_
            · intro Q' hR hQp
              have hb0 : Below wo.heap.size wo wo.drew := by (repeat' (first | with_reducible (first | exact Below.refl _ _ | assumption | refine Below.drew ?_ | refine Below_drewN ?_ _ | refine Below.alloc ?_ ?_ _ | refine Below.setCell ?_ ?_ _) | omega | (simp; done) | (simp; omega)))
              have hS : SC [(⟨rb, 0, none⟩, (.string s)), (⟨rb, 1, none⟩, (.int .i64 (p : Int)))] wo.drew := hS0
              generalize wo.drew = wa at *
              refine wpAnyK_takes hQp hS [0,1,2,3,4,5,6] ?_
              iterate 7 (refine takeK_cons _ rfl (by kernel_rfl) (yields_value (by kernel_rfl) (by intro w0 hw0; have hw1 := hw0; simp only [SC] at hw1; first | (go_simp; done) | (go_simp; rfl))) ?_; simp only [Act.put, List.getElem_toArray, List.getElem_cons_succ, List.getElem_cons_zero, List.setIfInBounds_toArray, List.set_cons_succ, List.set_cons_zero])
              refine takeK_nil ?_
              refine wpAnyK_takes hQp hS [7,8,9,10,11,12,13] ?_
              iterate 7 (refine takeK_cons _ rfl (by kernel_rfl) (yields_value (by kernel_rfl) (by intro w0 hw0; have hw1 := hw0; simp only [SC] at hw1; first | (go_simp; done) | (go_simp; rfl))) ?_; simp only [Act.put, List.getElem_toArray, List.getElem_cons_succ, List.getElem_cons_zero, List.setIfInBounds_toArray, List.set_cons_succ, List.set_cons_zero])
              refine takeK_nil ?_
              refine wpAnyK_takes hQp hS [14,15] ?_
              iterate 2 (refine takeK_cons _ rfl (by kernel_rfl) (yields_value (by kernel_rfl) (by intro w0 hw0; have hw1 := hw0; simp only [SC] at hw1; first | (go_simp; done) | (go_simp; rfl))) ?_; simp only [Act.put, List.getElem_toArray, List.getElem_cons_succ, List.getElem_cons_zero, List.setIfInBounds_toArray, List.set_cons_succ, List.set_cons_zero])
              refine takeK_nil ?_
              refine wpAnyK_takes hQp hS [16,17,18,19,20,21,22,23] ?_
              iterate 8 (refine takeK_cons _ rfl (by kernel_rfl) (yields_value (by kernel_rfl) (by intro w0 hw0; have hw1 := hw0; simp only [SC] at hw1; first | (go_simp; done) | (go_simp; rfl))) ?_; simp only [Act.put, List.getElem_toArray, List.getElem_cons_succ, List.getElem_cons_zero, List.setIfInBounds_toArray, List.set_cons_succ, List.set_cons_zero])
              refine takeK_nil ?_
              refine wpAnyK_take' (i := 24) undef rfl (by kernel_rfl) (fun _ _ _ h => hQp _ _ _ _ h) hS (.inr ⟨by kernel_rfl, rfl⟩) ?_; simp only [Act.put, List.getElem_toArray, List.getElem_cons_succ, List.getElem_cons_zero, List.setIfInBounds_toArray, List.set_cons_succ, List.set_cons_zero]
              refine wpAnyK_take' (i := 28) undef rfl (by kernel_rfl) (fun _ _ _ h => hQp _ _ _ _ h) hS (.inr ⟨by kernel_rfl, rfl⟩) ?_; simp only [Act.put, List.getElem_toArray, List.getElem_cons_succ, List.getElem_cons_zero, List.setIfInBounds_toArray, List.set_cons_succ, List.set_cons_zero]
              refine wpAnyK_take' (i := 25) undef rfl (by kernel_rfl) (fun _ _ _ h => hQp _ _ _ _ h) hS (.inr ⟨by kernel_rfl, rfl⟩) ?_; simp only [Act.put, List.getElem_toArray, List.getElem_cons_succ, List.getElem_cons_zero, List.setIfInBounds_toArray, List.set_cons_succ, List.set_cons_zero]
              refine wpAnyK_take' (i := 29) undef rfl (by kernel_rfl) (fun _ _ _ h => hQp _ _ _ _ h) hS (.inr ⟨by kernel_rfl, rfl⟩) ?_; simp only [Act.put, List.getElem_toArray, List.getElem_cons_succ, List.getElem_cons_zero, List.setIfInBounds_toArray, List.set_cons_succ, List.set_cons_zero]
              refine wpAnyK_take' (i := 26) undef rfl (by kernel_rfl) (fun _ _ _ h => hQp _ _ _ _ h) hS (.inr ⟨by kernel_rfl, rfl⟩) ?_; simp only [Act.put, List.getElem_toArray, List.getElem_cons_succ, List.getElem_cons_zero, List.setIfInBounds_toArray, List.set_cons_succ, List.set_cons_zero]
              refine wpAnyK_take' (i := 30) undef rfl (by kernel_rfl) (fun _ _ _ h => hQp _ _ _ _ h) hS (.inr ⟨by kernel_rfl, rfl⟩) ?_; simp only [Act.put, List.getElem_toArray, List.getElem_cons_succ, List.getElem_cons_zero, List.setIfInBounds_toArray, List.set_cons_succ, List.set_cons_zero]
              refine wpAnyK_take' (i := 27) undef rfl (by kernel_rfl) (fun _ _ _ h => hQp _ _ _ _ h) hS (.inr ⟨by kernel_rfl, rfl⟩) ?_; simp only [Act.put, List.getElem_toArray, List.getElem_cons_succ, List.getElem_cons_zero, List.setIfInBounds_toArray, List.set_cons_succ, List.set_cons_zero]
              refine wpAnyK_take' (i := 31) undef rfl (by kernel_rfl) (fun _ _ _ h => hQp _ _ _ _ h) hS (.inr ⟨by kernel_rfl, rfl⟩) ?_; simp only [Act.put, List.getElem_toArray, List.getElem_cons_succ, List.getElem_cons_zero, List.setIfInBounds_toArray, List.set_cons_succ, List.set_cons_zero]
              refine wpAnyK_take' (i := 32) undef rfl (by kernel_rfl) (fun _ _ _ h => hQp _ _ _ _ h) hS (.inr ⟨by kernel_rfl, rfl⟩) ?_; simp only [Act.put, List.getElem_toArray, List.getElem_cons_succ, List.getElem_cons_zero, List.setIfInBounds_toArray, List.set_cons_succ, List.set_cons_zero]
              refine wpAnyK_take' (i := 33) undef rfl (by kernel_rfl) (fun _ _ _ h => hQp _ _ _ _ h) hS (.inr ⟨by kernel_rfl, rfl⟩) ?_; simp only [Act.put, List.getElem_toArray, List.getElem_cons_succ, List.getElem_cons_zero, List.setIfInBounds_toArray, List.set_cons_succ, List.set_cons_zero]
              refine wpAnyK_takes hQp hS [34] ?_
              iterate 1 (refine takeK_cons _ rfl (by kernel_rfl) (yields_value (by kernel_rfl) (by intro w0 hw0; have hw1 := hw0; simp only [SC] at hw1; first | (go_simp; done) | (go_simp; rfl))) ?_; simp only [Act.put, List.getElem_toArray, List.getElem_cons_succ, List.getElem_cons_zero, List.setIfInBounds_toArray, List.set_cons_succ, List.set_cons_zero])
              refine takeK_nil ?_
              refine wpAnyK_takes hQp hS [35] ?_
              iterate 1 (refine takeK_cons _ rfl (by kernel_rfl) (yields_value (by kernel_rfl) (by intro w0 hw0; have hw1 := hw0; simp only [SC] at hw1; first | (go_simp; done) | (go_simp; rfl))) ?_; simp only [Act.put, List.getElem_toArray, List.getElem_cons_succ, List.getElem_cons_zero, List.setIfInBounds_toArray, List.set_cons_succ, List.set_cons_zero])
              refine takeK_nil ?_
              refine wpAnyK_done (by kernel_rfl) ?_ _
              refine hR _ _ ?_
              iterate 35 apply Exists.intro
              refine ⟨?_, hb0⟩
              simp only [puts, Act.put, List.setIfInBounds_toArray, List.set_cons_succ, List.set_cons_zero]
              rfl
            rintro a' w8 ⟨v37, v38, v39, v40, v41, v42, v43, v44, v45, v46, v47, v48, v49, v50, v51, v52, v53, v54, v55, v56, v57, v58, v59, v60, v61, v62, v63, v64, v65, v66, v67, v68, v69, v70, v71, rfl, hb8⟩
            simp only [puts, Act.put, List.setIfInBounds_toArray, List.set_cons_succ, List.set_cons_zero]
            rename World => w1
            have h2 := h1.under hb8
            have hbw := hb.trans (hb8.mono hb.size)
            obtain ⟨r3, r4⟩ := h2.cells
            have hrl2 := h2.lt
            clear hS0 e1 e2 e3
            have hS3 : SC [(⟨rb, 0, none⟩, (.string s)), (⟨rb, 1, none⟩, (.int .i64 (p : Int)))] w1 := ⟨h2.cells.1 0, h2.cells.1 1, trivial⟩
            have hS0 : SC [(⟨rb, 0, none⟩, (.string s)), (⟨rb, 1, none⟩, (.int .i64 (p : Int)))] w1.drew := hS3
            go_upto_region 7 with fail
            clear r3 r4
            have g0 : (0 : Int) ≤ (p : Int) := by omega
            have g1 : (p : Int) ≤ (k : Int) := by omega
            have g2 : (k : Int) ≤ (s.size : Int) := by have := HKD.out; omega
            --CUTF3E
            refine wp_region_to (SC [(⟨rb, 0, none⟩, (.string s)), (⟨rb, 1, none⟩, (.int .i64 (p : Int)))]) 99 (fun a0 a' w' => ∃ v76 v77 v78 v79 v80 v81 v82 v83 v84 v85 v86 v87 v88 v89, a' = puts a0 [(76, v76), (77, v77), (78, v78), (79, v79), (80, v80), (81, v81), (82, v82), (83, v83), (84, v84), (85, v85), (86, v86), (87, v87), (88, v88), (89, v89), (4, .int .i64 ((decVal ((s.data.toList.drop p).take D) : Nat) : Int)), (5, .nilIface)] ∧ Below w1.heap.size w1 w') (by kernel_rfl) ?_ ?_
            · intro Q' hR hQp
              have hb0 : Below w1.heap.size w1 w1.drew := by (repeat' (first | with_reducible (first | exact Below.refl _ _ | assumption | refine Below.drew ?_ | refine Below_drewN ?_ _ | refine Below.alloc ?_ ?_ _ | refine Below.setCell ?_ ?_ _) | omega | (simp; done) | (simp; omega)))
              have hS : SC [(⟨rb, 0, none⟩, (.string s)), (⟨rb, 1, none⟩, (.int .i64 (p : Int)))] w1.drew := hS0
              generalize w1.drew = wa at *
              refine wpAnyK_takes hQp hS [0,4,8,1,5,2,6,3,7,9] ?_
              iterate 10 (refine takeK_cons _ rfl (by kernel_rfl) (yields_value (by kernel_rfl) (by intro w0 hw0; have hw1 := hw0; simp only [SC] at hw1; first | (go_simp; done) | (go_simp; rfl))) ?_; simp only [Act.put, List.getElem_toArray, List.getElem_cons_succ, List.getElem_cons_zero, List.setIfInBounds_toArray, List.set_cons_succ, List.set_cons_zero])
              refine takeK_nil ?_
              --CUTG3E
              clear hS
              refine wpAnyK_call (i := 10) rfl (by kernel_rfl) (by kernel_rfl) fun K10 hK10 => ?_
              go_simp
              go_wp2_with fail
              --CUTH3E
              refine (Tryd.strconv_Atoi (s.extract p k) _ HSZ.out (by rw [HMID.out]; exact HGD.out.2) _).mono ?_
              rintro e wb ⟨rfl, tt, rfl⟩
              have hbx := Lib.bytesWorld_below wa 5 tt
              have hbz := hb0.trans (hbx.mono hb0.size)
              go_wp2_with fail
              have hS : _ := SC.later hbz hS3
              refine hK10 _ _ (fun _ => hS) ?_
              clear hK10
              refine wpAnyK_takes hQp hS [11,12,13,14,15] ?_
              iterate 5 (refine takeK_cons _ rfl (by kernel_rfl) (yields_value (by kernel_rfl) (by intro w0 hw0; have hw1 := hw0; simp only [SC] at hw1; first | (go_simp; done) | (go_simp; rfl))) ?_; simp only [Act.put, List.getElem_toArray, List.getElem_cons_succ, List.getElem_cons_zero, List.setIfInBounds_toArray, List.set_cons_succ, List.set_cons_zero])
              refine takeK_nil ?_
              refine wpAnyK_done (by kernel_rfl) ?_ _
              refine hR _ _ ?_
              iterate 14 apply Exists.intro
              refine ⟨?_, hbz⟩
              simp only [puts, Act.put, List.setIfInBounds_toArray, List.set_cons_succ, List.set_cons_zero]
              rfl
            rintro a' w8 ⟨v76, v77, v78, v79, v80, v81, v82, v83, v84, v85, v86, v87, v88, v89, rfl, hb8⟩
            simp only [puts, Act.put, List.setIfInBounds_toArray, List.set_cons_succ, List.set_cons_zero]
            rename World => w2
            have h4 := h2.under hb8
            obtain ⟨r3, r4⟩ := h4.cells
            have hrl4 := h4.lt
            have h5 := h4.set 1 (.int .i64 (k : Int))
            simp only [List.setIfInBounds_toArray, List.set_cons_succ, List.set_cons_zero] at h5
            have hF : Frm (fun k => k ≠ rb) B w (w2.setCell ⟨rb, 1, none⟩ (.int .i64 (k : Int))) := (Frm.of (hbw.trans (hb8.mono hbw.size)) (by omega)).trans (Frm.set (a := ⟨rb, 1, none⟩) (fun h => h rfl) hB _)
            clear hS0 hS3
            go_wp2
            go_ret
            exact ⟨_, k, false, rfl, h5, hF, HGD.out.1⟩

end Go.Proofs.YtpfapfgfchenoaaDoor
