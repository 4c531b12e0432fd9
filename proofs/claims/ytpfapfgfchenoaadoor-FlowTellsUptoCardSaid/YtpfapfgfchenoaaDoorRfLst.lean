/-
  The document's list of numbers.
-/
import Derived.Test.YtpfapfgfchenoaaDoorRfNum
import Derived.Test.YtpfapfgfchenoaaDoorReadN
import Derived.WalkKit
import Derived.WalkSpells
import Derived.WalkLawsBesides
import Derived.Lib.Hide
import Derived.Deep.LoopGhost
import Derived.Deep.QuietTactic
import Derived.BigQuiet
import Derived.Deep.RegionWith
import Derived.Handy
import Derived.Deep.Cut
import Derived.Lib.AtoiErrMem
set_option linter.unusedSimpArgs false
set_option linter.unusedVariables false
namespace Go.St
open Go.RowKit
/-- what the document's list hands back -/
def DocList (w : World) (s : ByteArray) (p : Nat) (u : List UInt8) (e : Ending) (w' : World) : Prop := ∃ (out : List Int) (oa : Option Addr) (oc q : Nat) (good : Bool), e = .returned (.tuple #[.slice oa out.length oc, .int .i64 (q : Int), .bool good]) ∧ Below w.heap.size w w' ∧ q ≤ s.size ∧ rowRep intS (fun b => w.heap.size ≤ b) w' oa oc out ∧ (good = true → optP u (s.data.toList.drop p) = some (out, s.data.toList.drop q)) ∧ (good = false → optP u (s.data.toList.drop p) = none)
theorem DocList.is {w w' : World} {s : ByteArray} {p : Nat} {u : List UInt8} {e : Ending} (out : List Int) (oa : Option Addr) (oc q : Nat) (good : Bool) (h : e = .returned (.tuple #[.slice oa out.length oc, .int .i64 (q : Int), .bool good]) ∧ Below w.heap.size w w' ∧ q ≤ s.size ∧ rowRep intS (fun b => w.heap.size ≤ b) w' oa oc out ∧ (good = true → optP u (s.data.toList.drop p) = some (out, s.data.toList.drop q)) ∧ (good = false → optP u (s.data.toList.drop p) = none)) : DocList w s p u e w' := ⟨out, oa, oc, q, good, h⟩
/-- whatever number stands next, the row goes on with it -/
def NumsTo (s : ByteArray) (p0 : Nat) (out : List Int) (q : Nat) : Prop := q ≤ s.size ∧ out.length ≤ q ∧ ∀ v q2 bad, NumAt s q v q2 bad → NumsAt s p0 (out ++ [v]) q2 bad
/-- the comparing of a text's piece with a word -/
theorem sub_word {s u : ByteArray} {p : Nat} : ((s.extract p (p + u.size)).toList == u.toList) = Lib.hasPrefix (s.data.toList.drop p) u.data.toList := by
  rw [Lib.toList_data, Lib.toList_data, str_mid, Nat.add_sub_cancel_left, ← str_len]
  unfold Lib.hasPrefix
  rw [Bool.eq_iff_iff, beq_iff_eq, List.isPrefixOf_iff_prefix, List.prefix_iff_eq_take]
  exact ⟨fun h => h.symm, fun h => h.symm⟩
end Go.St
namespace Go.Proofs.YtpfapfgfchenoaaDoor
open Go.RowKit Go.St

set_option maxRecDepth 100000 in
set_option maxHeartbeats 16000000 in
theorem list_c (s : ByteArray) (hs : s.size ≤ 2000) (p : Nat) (hp : p ≤ s.size) (u : ByteArray) (hu : u.size ≤ 100) (w : World) :
    Calls Tryd.prog 31 #[.string s, .int .i64 (p : Int), .string u] w fun e w' => DocList w s p u.data.toList e w' := by
  obtain ⟨i0, gi, gz0, gz1, gz2⟩ := info_parts int_info9
  go_enter Tryd.func31, Tryd.ntmps31
  have hw1 : IntKind.i64.wrap ((p : Int) + (u.size : Int)) = (p : Int) + (u.size : Int) := IntWalk.i64_in _ (by omega)
  by_cases hlt : p + u.size ≤ s.size
  case pos =>
    have b1 : ¬ (s.size : Int) < (p : Int) + (u.size : Int) := by omega
    have b2 : (0 : Int) ≤ (p : Int) := by omega
    have b3 : (p : Int) ≤ (p : Int) + (u.size : Int) := by omega
    have b4 : (p : Int) + (u.size : Int) ≤ (s.size : Int) := by omega
    have HW := Lib.hid (sub_word (s := s) (u := u) (p := p))
    generalize hcm : ((s.extract p (p + u.size)).toList == u.toList) = cm at *
    cases cm with
    | false =>
      have HNO : Hid (Lib.hasPrefix (s.data.toList.drop p) u.data.toList = false) := Lib.hid HW.out.symm
      have e1 : (!(s.extract p (p + u.size)).toList == u.toList) = true := by rw [hcm]; rfl
      go_wp2
      go_ret3
      exact .is [] none 0 p true ⟨rfl, Below.refl _ _, hp, rowRep.nil _ _ _ _, fun _ => by unfold optP; rw [if_neg (by rw [HNO.out]; decide)], fun h => by cases h⟩
    | true =>
      have e1 : (!(s.extract p (p + u.size)).toList == u.toList) = false := by rw [hcm]; rfl
      go_wp2
      have HN0 : NumsTo s (p + u.size) [] (p + u.size) := ⟨hlt, Nat.zero_le _, fun v q2 bad h => NumsAt.start h⟩
      go_loopw [1, 9] (fun av ov wr => ∃ (out : List Int) (oa : Option Addr) (oc q : Nat), av = .int .i64 (q : Int) ∧ ov = .slice oa out.length oc ∧ Below w.heap.size w wr ∧ ownR intS 3 (fun _ => False) w.heap.size wr oa out.length oc out ∧ NumsTo s (p + u.size) out q) (fun av _ _ => 3000 - (intOf av).toNat)
      case atStart => exact ⟨[], none, 0, p + u.size, by first | rfl | go_num, rfl, Below.refl _ _, ownR.nil _ _ _ _ _ (fun _ h => h.elim), HN0⟩
      case round =>
        obtain ⟨out, oa, oc, q, rfl, rfl, hb, hO, hN⟩ := hrel
        rename World => wo
        go_wp2_with fail
        refine (number_c s hs q hN.1 wo).mono ?_
        rintro e w1 ⟨v, q2, good, rfl, hb1, hN1⟩
        have hNN := hN.2.2 v q2 (!good) hN1
        have hb2 := hb.trans (hb1.mono hb.size)
        cases good with
        | false =>
          have HNO : Hid (optP u.data.toList (s.data.toList.drop p) = none) := Lib.hid (by
            unfold optP
            rw [if_pos HW.out.symm, List.drop_drop, str_len]
            exact hNN.none_ rfl)
          go_wp2
          go_ret3
          exact .is [] none 0 q false ⟨rfl, hb2, hN.1, rowRep.nil _ _ _ _, fun h => (by cases h), fun _ => HNO.out⟩
        | true =>
          have hI := hNN.i64 v (by simp)
          have hqs := hN.1
          have hln := hN.2.1
          have hO5 := hO.below hb1
          have hbx := bel_new w1 (.cells #[.int .i64 v] 3)
          have hE : blockIs (w1.alloc (.cells #[.int .i64 v] 3)) w1.heap.size 3 #[.int .i64 v] := blockIs.new rfl
          have hO6 := hO5.below hbx
          have hb3 := hb2.trans (hbx.mono hb2.size)
          have hz7 := hb3.size
          have hsrc := src_one (sh := intS) (ok := fun _ => False) (x := v) hE ⟨rfl, hI⟩
          go_wp2_with (at_builtin; go_must (refine wpList_appR (sh := intS) (n := out.length) (m := 1) rfl _ _ 38 rfl 3 i0 (.int .i64 0) 8 Tryd.underlying38 gi gz0 gz1 gz2 rfl (by decide) rfl hO6 rfl rfl hsrc (by simp only [maxLen]; omega) (by omega) hz7 ?_); go_must (intro oa4 oc4 w8 hO8 hg8 hd8))
          case roundEnd =>
            have HC : Lib.hasPrefix (s.data.toList.drop q2) [44] = true := by
              rw [hp_one, List.head?_drop]
              rename_i h9 h8
              have h7 := h8.2
              rw [bne_eq_false_iff_eq] at h7
              rw [str_at h9]
              exact congrArg some (UInt8.toNat_inj.1 (by show (s[q2]'h9).toNat = 44; omega))
            have hlt2 : q2 < s.size := by
              have := hasPrefix_len HC
              rw [List.length_drop, str_len] at this
              simp only [List.length_cons, List.length_nil] at this
              omega
            have hb8 := hb3.trans (grown_below hg8 (fun k hk => (hO6.lt k hk).1) hz7)
            have hlen8 : (out ++ [v]).length = out.length + 1 := by simp
            go_roundw
            case rel => exact ⟨out ++ [v], oa4, oc4, q2 + 1, by go_num, by rw [hlen8], hb8, by rw [hlen8]; exact hO8, ⟨by omega, by have := hN1.le; have := (hN1.some_ rfl).2; omega, fun v3 q3 bad3 h3 => hNN.more HC h3⟩⟩
            case measure => have := (hN1.some_ rfl).2; have := hN1.le; simp [intOf] <;> omega
          all_goals
            go_ret3
            refine .is (out ++ [v]) oa4 oc4 q2 true ⟨by rw [List.length_append]; rfl, hb3.trans (grown_below hg8 (fun k hk => (hO6.lt k hk).1) hz7), hNN.le, hO8.row (fun _ h => h.elim) (fun k hk => (hO8.lt k hk).1), fun _ => ?_, fun h => (by cases h)⟩
            have HC : Lib.hasPrefix (s.data.toList.drop q2) [44] = false := by
              cases h9 : Lib.hasPrefix (s.data.toList.drop q2) [44] with
              | false => rfl
              | true =>
                have h8 := hp_one.1 h9
                rw [List.head?_drop] at h8
                exfalso
                by_cases hq9 : q2 < s.size
                · rw [str_at hq9] at h8; have h7 := Option.some.inj h8; simp_all; try omega
                · rw [List.getElem?_eq_none (by rw [str_len]; omega)] at h8; cases h8
            unfold optP
            rw [if_pos HW.out.symm, List.drop_drop, str_len]
            exact hNN.done HC
  case neg =>
    have HNO : Hid (Lib.hasPrefix (s.data.toList.drop p) u.data.toList = false) := Lib.hid (by
      cases h9 : Lib.hasPrefix (s.data.toList.drop p) u.data.toList with
      | false => rfl
      | true => have := hasPrefix_len h9; rw [List.length_drop, str_len, str_len] at this; omega)
    have b1 : (s.size : Int) < (p : Int) + (u.size : Int) := by omega
    go_wp2
    go_ret3
    exact .is [] none 0 p true ⟨rfl, Below.refl _ _, hp, rowRep.nil _ _ _ _, fun _ => by unfold optP; rw [if_neg (by rw [HNO.out]; decide)], fun h => by cases h⟩

end Go.Proofs.YtpfapfgfchenoaaDoor
