/-
  The document's number.
-/
import Derived.Test.YtpfapfgfchenoaaDoorReader
import Derived.OwnWalk
import Derived.WalkKit
import Derived.WalkSpells
import Derived.WalkLawsBesides
import Derived.Lib.Hide
import Derived.Deep.LoopGhost
import Derived.Deep.QuietTactic
import Derived.BigQuiet
import Derived.Deep.RegionWith
import Derived.Handy
import Derived.Deep.Cut
import Derived.Lib.AtoiErrMem
set_option linter.unusedSimpArgs false
set_option linter.unusedVariables false
namespace Go.St
open Go.RowKit
theorem take_more {l : List UInt8} {k : Nat} {c : UInt8} (h : l[k]? = some c) : decVal (l.take (k + 1)) = decVal (l.take k) * 10 + (c.toNat - 48) := by
  rw [List.take_add_one, h]
  exact decVal_snoc _ _
theorem digs_prefix {l : List UInt8} {k : Nat} (hk : k ≤ digs l) : ∀ c ∈ l.take k, isDig c = true := by
  intro c hc
  have : l.take k = (l.take (digs l)).take k := by rw [List.take_take, Nat.min_eq_left hk]
  rw [this] at hc
  exact digs_all l c (List.mem_of_mem_take hc)
/-- what the document's number hands back (named, so that simp leaves it alone) -/
def DocNum (w : World) (s : ByteArray) (p : Nat) (e : Ending) (w' : World) : Prop := ∃ (v : Int) (q : Nat) (good : Bool), e = .returned (.tuple #[.int .i64 v, .int .i64 (q : Int), .bool good]) ∧ Below w.heap.size w w' ∧ NumAt s p v q (!good)
theorem DocNum.is {w w' : World} {s : ByteArray} {p : Nat} {e : Ending} (v : Int) (q : Nat) (good : Bool) (h : e = .returned (.tuple #[.int .i64 v, .int .i64 (q : Int), .bool good]) ∧ Below w.heap.size w w' ∧ NumAt s p v q (!good)) : DocNum w s p e w' := ⟨v, q, good, h⟩
end Go.St
namespace Go.Proofs.YtpfapfgfchenoaaDoor
open Go.RowKit Go.St

set_option maxRecDepth 100000 in
set_option maxHeartbeats 16000000 in
theorem number_c (s : ByteArray) (hs : s.size ≤ 2000) (p : Nat) (hp : p ≤ s.size) (w : World) :
    Calls Tryd.prog 30 #[.string s, .int .i64 (p : Int)] w fun e w' => DocNum w s p e w' := by
  have hdl := digs_le (s.data.toList.drop p)
  rw [List.length_drop, str_len] at hdl
  have HG := Lib.hid (fun (k : Nat) (c : UInt8) => digs_go (l := s.data.toList.drop p) (k := k) (c := c))
  have HBAD := Lib.hid (num_bad (s := s) hp)
  have HGOOD := Lib.hid (num_good (s := s) hp)
  have HAT := Lib.hid (fun (k : Nat) (hk : k < s.size) => str_at hk)
  have HTM := Lib.hid (fun (k : Nat) (c : UInt8) => take_more (l := s.data.toList.drop p) (k := k) (c := c))
  have HDV := Lib.hid (fun (k : Nat) (hk : k ≤ digs (s.data.toList.drop p)) => decVal_le (digs_prefix hk))
  generalize digs (s.data.toList.drop p) = D at *
  go_enter Tryd.func30, Tryd.ntmps30
  go_wp2
  --CUT1
  go_loopw [7, 8] (fun nv kv wr => ∃ k : Nat, nv = .int .i64 ((decVal ((s.data.toList.drop p).take (k - p)) : Nat) : Int) ∧ kv = .int .i64 (k : Int) ∧ p ≤ k ∧ k ≤ p + D ∧ k ≤ p + 5 ∧ Below w.heap.size w wr) (fun _ kv _ => p + D - (intOf kv).toNat)
  case atStart => exact ⟨p, by simp [decVal], rfl, Nat.le_refl _, Nat.le_add_right _ _, Nat.le_add_right _ _, Below.refl _ _⟩
  case round =>
    obtain ⟨k, rfl, rfl, hpk, hkD, hk5, hb⟩ := hrel
    rename World => wo
    have hwk : IntKind.i64.wrap ((k : Int) - (p : Int)) = (k : Int) - (p : Int) := IntWalk.i64_in _ (by omega)
    by_cases hlt : k < s.size
    case pos =>
      have b1 : (k : Int) < (s.size : Int) := by omega
      have b0 : (0 : Int) ≤ (k : Int) := by omega
      have hat := HAT.out k hlt
      have hat2 : (s.data.toList.drop p)[k - p]? = some (s[k]'hlt) := by rw [List.getElem?_drop, show p + (k - p) = k by omega]; exact hat
      have HGO := Lib.hid (HG.out (k - p) (s[k]'hlt) (by omega) hat2)
      have HTK := Lib.hid (HTM.out (k - p) (s[k]'hlt) hat2)
      have HG9 : Hid (isDig (s[k]'hlt) = (decide (48 ≤ (s[k]'hlt).toNat) && decide ((s[k]'hlt).toNat ≤ 57))) := Lib.hid rfl
      clear hat hat2
      by_cases h48 : 48 ≤ (s[k]'hlt).toNat
      case pos =>
        have d1 : (48 : Int) ≤ ((s[k]'hlt).toNat : Int) := by omega
        by_cases h57 : (s[k]'hlt).toNat ≤ 57
        case pos =>
          have d2 : ((s[k]'hlt).toNat : Int) ≤ 57 := by omega
          have hgo := HGO.out.1 (by rw [HG9.out, decide_eq_true h48, decide_eq_true h57]; rfl)
          by_cases h4 : p + 4 < k
          case pos =>
            have e4 : (4 : Int) < (k : Int) - (p : Int) := by omega
            go_wp2
            go_ret3
            exact .is 0 p false ⟨rfl, hb, HBAD.out (.inr (.inl (by omega)))⟩
          case neg =>
            have e4 : ¬ (4 : Int) < (k : Int) - (p : Int) := by omega
            have hN := HDV.out (k - p) (by omega)
            have hlen : ((s.data.toList.drop p).take (k - p)).length ≤ 4 := by rw [List.length_take]; omega
            have h10 : 10 ^ ((s.data.toList.drop p).take (k - p)).length ≤ 10 ^ 4 := Nat.pow_le_pow_right (by decide) hlen
            have HTL := HTK.out
            generalize decVal ((s.data.toList.drop p).take (k - p)) = N at *
            have hN9 : N < 10000 := by omega
            generalize hcc : (s[k]'hlt).toNat = cc at *
            have hw2 : IntKind.i64.wrap (10 * (N : Int)) = 10 * (N : Int) := IntWalk.i64_in _ (by omega)
            have hw3 : IntKind.u8.wrap ((cc : Int) - 48) = (cc : Int) - 48 := by unfold IntKind.wrap; simp [IntKind.bits, IntKind.signed]; omega
            have hw4 : IntKind.i64.wrap ((cc : Int) - 48) = (cc : Int) - 48 := IntWalk.i64_in _ (by omega)
            have hw5 : IntKind.i64.wrap (10 * (N : Int) + ((cc : Int) - 48)) = 10 * (N : Int) + ((cc : Int) - 48) := IntWalk.i64_in _ (by omega)
            have HVL : Hid (10 * (N : Int) + ((cc : Int) - 48) = ((decVal ((s.data.toList.drop p).take (k + 1 - p)) : Nat) : Int)) := Lib.hid (by
              rw [show k + 1 - p = (k - p) + 1 by omega, HTL]
              omega)
            clear hN hlen h10 HTL HTK HGO HG9
            --CUT2
            go_wp2
            case roundEnd =>
              go_roundw
              case rel => exact ⟨k + 1, by rw [HVL.out], by go_num, by omega, by omega, by omega, hb⟩
              case measure => simp [intOf] <;> omega
        case neg =>
          have d2 : ¬ ((s[k]'hlt).toNat : Int) ≤ 57 := by omega
          have HK := Lib.hid (HGO.out.2 (by rw [HG9.out, decide_eq_false h57]; simp))
          clear HGO HG9 HTK
          --CUT3
          have HKD : Hid (k = p + D) := Lib.hid (by have := HK.out; omega)
          rw [show k - p = D from HK.out]
          by_cases hD0 : D = 0
          case pos =>
            have e1 : ((k : Int) == (p : Int)) = true := by rw [beq_iff_eq]; have := HKD.out; omega
            go_wp2
            go_ret3; exact .is 0 p false ⟨rfl, hb, HBAD.out (.inl hD0)⟩
          have e1 : ((k : Int) == (p : Int)) = false := by rw [beq_eq_false_iff_ne]; have := HKD.out; omega
          have e1n : ¬ k = p := by have := HKD.out; omega
          have e1b : (k == p) = false := by rw [beq_eq_false_iff_ne]; exact e1n
          have e1d : decide (k = p) = false := decide_eq_false e1n
          have e1i : ¬ (k : Int) = (p : Int) := by have := HKD.out; omega
          by_cases hD4 : 4 < D
          case pos =>
            have e2 : (4 : Int) < (k : Int) - (p : Int) := by have := HKD.out; omega
            go_wp2
            go_ret3; exact .is 0 p false ⟨rfl, hb, HBAD.out (.inr (.inl hD4))⟩
          have e2 : ¬ (4 : Int) < (k : Int) - (p : Int) := by have := HKD.out; omega
          have hps : p < s.size := by have := HKD.out; omega
          have b5 : (p : Int) < (s.size : Int) := by omega
          have b6 : (0 : Int) ≤ (p : Int) := by omega
          have hatp := HAT.out p hps
          by_cases hz : (s[p]'hps).toNat = 48
          case pos =>
            have e4 : (((s[p]'hps).toNat : Int) == 48) = true := by rw [beq_iff_eq]; omega
            by_cases hD1 : 1 < D
            case pos =>
              have e3 : (1 : Int) < (k : Int) - (p : Int) := by have := HKD.out; omega
              have HBD := Lib.hid (HBAD.out (.inr (.inr ⟨hD1, by rw [hatp, show s[p]'hps = 48 from UInt8.toNat_inj.1 hz]⟩)))
              clear hatp
              go_wp2
              go_ret3; exact .is 0 p false ⟨rfl, hb, HBD.out⟩
            case neg =>
              have e3 : ¬ (1 : Int) < (k : Int) - (p : Int) := by have := HKD.out; omega
              have HGD := Lib.hid (HGOOD.out hD0 hD4 (fun e => hD1 e.1)).1
              clear hatp
              go_wp2
              go_ret3; exact .is _ k true ⟨rfl, hb, by rw [HKD.out]; exact HGD.out⟩
          case neg =>
            have e4 : (((s[p]'hps).toNat : Int) == 48) = false := by rw [beq_eq_false_iff_ne]; omega
            have HGD := Lib.hid (HGOOD.out hD0 hD4 (fun e => hz (by have h9 := e.2; rw [hatp] at h9; have := Option.some.inj h9; rw [this]; rfl))).1
            clear hatp
            go_wp2
            go_ret3; exact .is _ k true ⟨rfl, hb, by rw [HKD.out]; exact HGD.out⟩
      case neg =>
        have d1 : ¬ (48 : Int) ≤ ((s[k]'hlt).toNat : Int) := by omega
        have HK := Lib.hid (HGO.out.2 (by rw [HG9.out, decide_eq_false h48]; simp))
        clear HGO HG9 HTK
        have HKD : Hid (k = p + D) := Lib.hid (by have := HK.out; omega)
        rw [show k - p = D from HK.out]
        by_cases hD0 : D = 0
        case pos =>
          have e1 : ((k : Int) == (p : Int)) = true := by rw [beq_iff_eq]; have := HKD.out; omega
          go_wp2
          go_ret3; exact .is 0 p false ⟨rfl, hb, HBAD.out (.inl hD0)⟩
        have e1 : ((k : Int) == (p : Int)) = false := by rw [beq_eq_false_iff_ne]; have := HKD.out; omega
        have e1n : ¬ k = p := by have := HKD.out; omega
        have e1b : (k == p) = false := by rw [beq_eq_false_iff_ne]; exact e1n
        have e1d : decide (k = p) = false := decide_eq_false e1n
        have e1i : ¬ (k : Int) = (p : Int) := by have := HKD.out; omega
        by_cases hD4 : 4 < D
        case pos =>
          have e2 : (4 : Int) < (k : Int) - (p : Int) := by have := HKD.out; omega
          go_wp2
          go_ret3; exact .is 0 p false ⟨rfl, hb, HBAD.out (.inr (.inl hD4))⟩
        have e2 : ¬ (4 : Int) < (k : Int) - (p : Int) := by have := HKD.out; omega
        have hps : p < s.size := by have := HKD.out; omega
        have b5 : (p : Int) < (s.size : Int) := by omega
        have b6 : (0 : Int) ≤ (p : Int) := by omega
        have hatp := HAT.out p hps
        by_cases hz : (s[p]'hps).toNat = 48
        case pos =>
          have e4 : (((s[p]'hps).toNat : Int) == 48) = true := by rw [beq_iff_eq]; omega
          by_cases hD1 : 1 < D
          case pos =>
            have e3 : (1 : Int) < (k : Int) - (p : Int) := by have := HKD.out; omega
            have HBD := Lib.hid (HBAD.out (.inr (.inr ⟨hD1, by rw [hatp, show s[p]'hps = 48 from UInt8.toNat_inj.1 hz]⟩)))
            clear hatp
            go_wp2
            go_ret3; exact .is 0 p false ⟨rfl, hb, HBD.out⟩
          case neg =>
            have e3 : ¬ (1 : Int) < (k : Int) - (p : Int) := by have := HKD.out; omega
            have HGD := Lib.hid (HGOOD.out hD0 hD4 (fun e => hD1 e.1)).1
            clear hatp
            go_wp2
            go_ret3; exact .is _ k true ⟨rfl, hb, by rw [HKD.out]; exact HGD.out⟩
        case neg =>
          have e4 : (((s[p]'hps).toNat : Int) == 48) = false := by rw [beq_eq_false_iff_ne]; omega
          have HGD := Lib.hid (HGOOD.out hD0 hD4 (fun e => hz (by have h9 := e.2; rw [hatp] at h9; have := Option.some.inj h9; rw [this]; rfl))).1
          clear hatp
          go_wp2
          go_ret3; exact .is _ k true ⟨rfl, hb, by rw [HKD.out]; exact HGD.out⟩
    case neg =>
      have b1 : ¬ (k : Int) < (s.size : Int) := by omega
      have HK : Hid (k - p = D) := Lib.hid (by omega)
      have HKD : Hid (k = p + D) := Lib.hid (by have := HK.out; omega)
      rw [show k - p = D from HK.out]
      by_cases hD0 : D = 0
      case pos =>
        have e1 : ((k : Int) == (p : Int)) = true := by rw [beq_iff_eq]; have := HKD.out; omega
        go_wp2
        go_ret3; exact .is 0 p false ⟨rfl, hb, HBAD.out (.inl hD0)⟩
      have e1 : ((k : Int) == (p : Int)) = false := by rw [beq_eq_false_iff_ne]; have := HKD.out; omega
      have e1n : ¬ k = p := by have := HKD.out; omega
      have e1b : (k == p) = false := by rw [beq_eq_false_iff_ne]; exact e1n
      have e1d : decide (k = p) = false := decide_eq_false e1n
      have e1i : ¬ (k : Int) = (p : Int) := by have := HKD.out; omega
      by_cases hD4 : 4 < D
      case pos =>
        have e2 : (4 : Int) < (k : Int) - (p : Int) := by have := HKD.out; omega
        go_wp2
        go_ret3; exact .is 0 p false ⟨rfl, hb, HBAD.out (.inr (.inl hD4))⟩
      have e2 : ¬ (4 : Int) < (k : Int) - (p : Int) := by have := HKD.out; omega
      have hps : p < s.size := by have := HKD.out; omega
      have b5 : (p : Int) < (s.size : Int) := by omega
      have b6 : (0 : Int) ≤ (p : Int) := by omega
      have hatp := HAT.out p hps
      by_cases hz : (s[p]'hps).toNat = 48
      case pos =>
        have e4 : (((s[p]'hps).toNat : Int) == 48) = true := by rw [beq_iff_eq]; omega
        by_cases hD1 : 1 < D
        case pos =>
          have e3 : (1 : Int) < (k : Int) - (p : Int) := by have := HKD.out; omega
          have HBD := Lib.hid (HBAD.out (.inr (.inr ⟨hD1, by rw [hatp, show s[p]'hps = 48 from UInt8.toNat_inj.1 hz]⟩)))
          clear hatp
          go_wp2
          go_ret3; exact .is 0 p false ⟨rfl, hb, HBD.out⟩
        case neg =>
          have e3 : ¬ (1 : Int) < (k : Int) - (p : Int) := by have := HKD.out; omega
          have HGD := Lib.hid (HGOOD.out hD0 hD4 (fun e => hD1 e.1)).1
          clear hatp
          go_wp2
          go_ret3; exact .is _ k true ⟨rfl, hb, by rw [HKD.out]; exact HGD.out⟩
      case neg =>
        have e4 : (((s[p]'hps).toNat : Int) == 48) = false := by rw [beq_eq_false_iff_ne]; omega
        have HGD := Lib.hid (HGOOD.out hD0 hD4 (fun e => hz (by have h9 := e.2; rw [hatp] at h9; have := Option.some.inj h9; rw [this]; rfl))).1
        clear hatp
        go_wp2
        go_ret3; exact .is _ k true ⟨rfl, hb, by rw [HKD.out]; exact HGD.out⟩

end Go.Proofs.YtpfapfgfchenoaaDoor
