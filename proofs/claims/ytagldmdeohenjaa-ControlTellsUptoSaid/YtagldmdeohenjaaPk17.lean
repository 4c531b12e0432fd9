/-
  Two lists held against each other: the walks of Ints, SameRules, SameOrder.
-/
import Derived.Test.YtagldmdeohenjaaRows
import Derived.WalkKit
import Derived.WalkSpells
import Derived.WalkLawsBesides
import Derived.Lib.Hide
import Derived.Deep.LoopGhost
import Derived.Deep.QuietTactic
import Derived.BigQuiet
import Derived.Deep.RegionWith
import Derived.Handy
import Derived.Test.YtagldmdeohenjaaPk2
import Derived.ChangeKeysEq
import Derived.Test.YtagldmdeohenjaaPk7
import Derived.Test.YtagldmdeohenjaaPk10
import Derived.Test.YtagldmdeohenjaaPk8
import Derived.Laws.Cover3
import Derived.Test.YtagldmdeohenjaaPk1
import Derived.Test.YtagldmdeohenjaaPk6
import Derived.Test.YtagldmdeohenjaaPk4
set_option linter.unusedSimpArgs false
set_option linter.unusedVariables false
namespace Go.Proofs.Ytagldmdeohenjaa
open Go.RowKit Go.St

/-- from a place on the two lists are the same -/
def sameFrom {α : Type} [DecidableEq α] (a b : List α) (j : Nat) : Bool := a.drop j == b.drop j

theorem sameFrom_start {α : Type} [DecidableEq α] (a b : List α) : (a == b) = sameFrom a b 0 := rfl

theorem sameFrom_bad {α : Type} [DecidableEq α] {a b : List α} {j : Nat} (h1 : j < a.length) (h2 : j < b.length) (hi : (a == b) = sameFrom a b j) (hne : a[j] ≠ b[j]) : (a == b) = false := by
  rw [hi, sameFrom, drop_step h1, drop_step h2, beq_eq_false_iff_ne]
  intro e
  exact hne (List.cons.inj e).1

theorem sameFrom_good {α : Type} [DecidableEq α] {a b : List α} {j : Nat} (h1 : j < a.length) (h2 : j < b.length) (hi : (a == b) = sameFrom a b j) (he : a[j] = b[j]) : (a == b) = sameFrom a b (j + 1) := by
  rw [hi, sameFrom, drop_step h1, drop_step h2, sameFrom, he, Bool.eq_iff_iff, beq_iff_eq, beq_iff_eq]
  exact ⟨fun e => (List.cons.inj e).2, fun e => by rw [e]⟩

theorem sameFrom_end {α : Type} [DecidableEq α] {a b : List α} {j : Nat} (h1 : j = a.length) (h2 : j = b.length) (hi : (a == b) = sameFrom a b j) : true = (a == b) := by
  rw [hi, sameFrom, h1, List.drop_length, ← h1, h2, List.drop_length]; rfl

theorem ne_of_length {α : Type} [DecidableEq α] {a b : List α} (h : a.length ≠ b.length) : (a == b) = false := by
  rw [beq_eq_false_iff_ne]
  rintro rfl
  exact h rfl

set_option maxHeartbeats 1000000 in
theorem ints_c (xs ys : List Int) (ok ok' : Nat → Prop) (ax ay : Option Addr) (cx cy : Nat) (w : World) (hx : rowRep intS ok w ax cx xs) (hy : rowRep intS ok' w ay cy ys) :
    Calls Try.prog 34 #[.slice ax xs.length cx, .slice ay ys.length cy] w fun e w' => e = .returned (.bool (xs == ys)) ∧ Below w.heap.size w w' := by
  by_cases hl : xs.length = ys.length
  case neg =>
    rw [ne_of_length hl]
    have hl' : ((xs.length : Int) == (ys.length : Int)) = false := by rw [beq_eq_false_iff_ne]; omega
    clear hl
    go_enter Try.func34, Try.ntmps34
    go_wp2
    go_ret; exact ⟨rfl, by (repeat' (first | with_reducible exact Below.refl _ _ | with_reducible assumption | with_reducible refine Below.drew ?_ | with_reducible refine Below_drewN ?_ _ | with_reducible refine Below.alloc ?_ ?_ _ | with_reducible refine Below.setCell ?_ ?_ _ | omega | (simp; done) | (simp; omega)))⟩
  have hl' : ((xs.length : Int) == (ys.length : Int)) = true := by rw [beq_iff_eq]; omega
  have hlx := hx.len_le
  have HL := Lib.hid hl
  clear hl
  go_enter Try.func34, Try.ntmps34
  go_wp2
  go_loopw [13] (fun i wr => ∃ j : Nat, j ≤ xs.length ∧ i = .int .i64 j ∧ Hid ((xs == ys) = sameFrom xs ys j) ∧ Below w.heap.size w wr) (fun i _ => xs.length - (intOf i).toNat)
  case atStart => exact ⟨0, Nat.zero_le _, rfl, sameFrom_start _ _, Below.refl _ _⟩
  case round =>
    obtain ⟨j, hj, rfl, hall, hb⟩ := hrel
    by_cases hlt : j < xs.length
    · have hlt2 : j < ys.length := by have := HL.out; omega
      obtain ⟨b, off, rfl, _, hbl, cs, hcs, hce⟩ := hx.get (List.getElem?_eq_getElem hlt)
      obtain ⟨rfl, hi1⟩ := hcs
      have e0 := cell_at hb hbl (hce 0 _ rfl)
      clear hce
      obtain ⟨b', off', rfl, _, hbl', cs', hcs', hce'⟩ := hy.get (List.getElem?_eq_getElem hlt2)
      obtain ⟨rfl, hi2⟩ := hcs'
      have e1 := cell_at hb hbl' (hce' 0 _ rfl)
      clear hce'
      simp only [intS, Nat.add_zero, Nat.mul_one] at e0 e1
      have b0 : (0 : Int) ≤ (j : Int) := by omega
      have b1 : (j : Int) < (xs.length : Int) := by omega
      have b2 : (j : Int) < (ys.length : Int) := by omega
      go_wp2
      go_quiet (fail)
      go_wp2
      case roundEnd =>
        go_roundw
        case rel => exact ⟨j + 1, by omega, by go_num, sameFrom_good hlt hlt2 hall.out (by (try simp only [beq_iff_eq, beq_eq_false_iff_ne, bne_iff_ne, bne_eq_false_iff_eq, ne_eq, Bool.not_eq_true', Bool.not_eq_false', decide_eq_true_eq, decide_eq_false_iff_not] at *); assumption), by (repeat' (first | with_reducible exact Below.refl _ _ | with_reducible assumption | with_reducible refine Below.drew ?_ | with_reducible refine Below_drewN ?_ _ | with_reducible refine Below.alloc ?_ ?_ _ | with_reducible refine Below.setCell ?_ ?_ _ | omega | (simp; done) | (simp; omega)))⟩
        case measure => simp [intOf]; omega
      all_goals (go_ret; exact ⟨ret_bool (sameFrom_bad hlt hlt2 hall.out (by (try simp only [beq_iff_eq, beq_eq_false_iff_ne, bne_iff_ne, bne_eq_false_iff_eq, ne_eq, Bool.not_eq_true', Bool.not_eq_false', decide_eq_true_eq, decide_eq_false_iff_not] at *); assumption)).symm, by (repeat' (first | with_reducible exact Below.refl _ _ | with_reducible assumption | with_reducible refine Below.drew ?_ | with_reducible refine Below_drewN ?_ _ | with_reducible refine Below.alloc ?_ ?_ _ | with_reducible refine Below.setCell ?_ ?_ _ | omega | (simp; done) | (simp; omega)))⟩)
    · go_wp2
      go_ret; exact ⟨ret_bool (sameFrom_end (by omega) (by have := HL.out; omega) hall.out), by (repeat' (first | with_reducible exact Below.refl _ _ | with_reducible assumption | with_reducible refine Below.drew ?_ | with_reducible refine Below_drewN ?_ _ | with_reducible refine Below.alloc ?_ ?_ _ | with_reducible refine Below.setCell ?_ ?_ _ | omega | (simp; done) | (simp; omega)))⟩

end Go.Proofs.Ytagldmdeohenjaa

/-
  Maps whose keys are pairs of integers.
-/
set_option linter.unusedSimpArgs false
set_option linter.unusedVariables false
namespace Go.Proofs.Ytagldmdeohenjaa
open Go.RowKit Go.St

def encP (p : Int × Int) : Value := .agg #[.int .i64 p.1, .int .i64 p.2]

set_option maxRecDepth 100000 in
theorem pair_law : KeyLaw Try.prog 99 encP := by
  have hp : Try.prog.plainKey 3 = true := by kernel_rfl
  have hc : Try.prog.cellsOf 3 = 1 := by kernel_rfl
  obtain ⟨i0, hi, hi1⟩ : ∃ i, Try.prog.info? 3 = some i ∧ i.size = 1 := by
    have h : (Try.prog.info? 3).map (·.size) = some 1 := by kernel_rfl
    cases hh : Try.prog.info? 3 with
    | none => rw [hh] at h; cases h
    | some i => rw [hh] at h; exact ⟨i, rfl, by simpa using h⟩
  refine KeyLaw.asking (by simp [Try.underlying99]) ?_ ?_ ?_
  · intro e k w
    have p0 := run_part_plain (P := Try.prog) (w := w) hp (xs := #[.int .i64 k.1, .int .i64 k.2]) (off := 0) (v := .int .i64 k.1) rfl
    have p1 := run_part_plain (P := Try.prog) (w := w) hp (xs := #[.int .i64 k.1, .int .i64 k.2]) (off := 1) (v := .int .i64 k.2) rfl
    have hk : ∀ z : Int, (Instr.checkKey e 9999 3 (.int .i64 z)).run Try.prog w = .ok () w := fun z => by
      rw [Instr.checkKey]; simp [run_underlying Try.underlying3]
    rw [Instr.checkKey]
    simp only [Sem.run_bind, run_underlying Try.underlying99, Result.andThen_ok, encP]
    simp only [Std.Legacy.Range.forIn_eq_forIn_range', Std.Legacy.Range.size, Nat.sub_zero, Nat.add_one_sub_one, Nat.div_one]
    simp [List.range', run_sizeOf w hi, hi1, hc, p0, p1, hk]
  · intro a b w
    rw [Op.equal, show Op.maxDepth = 9999 + 1 from rfl, encP, encP, run_equalIn_array (w := w) 9999 _ _ Try.underlying99 hi]
    have a0 := fun w : World => run_part_plain (P := Try.prog) (w := w) hp (xs := #[.int .i64 a.1, .int .i64 a.2]) (off := 0) (v := .int .i64 a.1) rfl
    have a1 := fun w : World => run_part_plain (P := Try.prog) (w := w) hp (xs := #[.int .i64 a.1, .int .i64 a.2]) (off := 1) (v := .int .i64 a.2) rfl
    have b0 := fun w : World => run_part_plain (P := Try.prog) (w := w) hp (xs := #[.int .i64 b.1, .int .i64 b.2]) (off := 0) (v := .int .i64 b.1) rfl
    have b1 := fun w : World => run_part_plain (P := Try.prog) (w := w) hp (xs := #[.int .i64 b.1, .int .i64 b.2]) (off := 1) (v := .int .i64 b.2) rfl
    have hq := fun (w : World) (x y : Int) => run_equalIn_int (P := Try.prog) w 9998 3 .i64 .i64 x y Try.underlying3
    rw [hc, show List.range 2 = [0, 1] from rfl]
    obtain ⟨x, y⟩ := a
    obtain ⟨z, u⟩ := b
    dsimp only at a0 a1 b0 b1 ⊢
    simp [Op.eqItems, a0, a1, b0, b1, hq]
    by_cases h1 : x = z <;> by_cases h2 : y = u <;> simp [h1, h2]
  · intro k
    simp [encP, Instr.sameBits]

end Go.Proofs.Ytagldmdeohenjaa

/-
  The walk of package rules' Of.
-/
set_option linter.unusedSimpArgs false
set_option linter.unusedVariables false
namespace Go.Proofs.Ytagldmdeohenjaa
open Go.RowKit Go.St

theorem info_rulesOf : (Try.prog.info? 88).map (fun i => (i.zero, i.size, i.bytes)) = some (some (.agg #[.int .i64 0, .int .i64 0, .int .i64 0]), 3, 24) := by kernel_rfl
theorem info_tabOf : (Try.prog.info? 37).map (fun i => (i.zero, i.size, i.bytes)) = some (some (.slice none 0 0), 1, 24) := by kernel_rfl

set_option maxRecDepth 100000 in
set_option maxHeartbeats 8000000 in
theorem of_c (p : Plan) (n : Nat) (cs : List Value) (ok : Nat → Prop) (w : World) (h : planS.rep ok w cs p) (hn : n ≤ 1000) (hbig : ∀ s : Nat, (rulesAt p s).length ≤ 5864062014800) (hpl : p.paths.length ≤ 100000000000000) :
    Calls Try.prog 22 #[.agg cs.toArray, .int .i64 n] w fun e w' => ∃ ob f, e = .returned (.slice (some ⟨ob, 0, none⟩) n n) ∧ w.heap.size ≤ ob ∧ Tbl w' ob 37 88 n f (fun s => rulesAt p s) ∧ Below w.heap.size w w' := by
  obtain ⟨fa, fc, pa, pc, rfl, hv, hfl, hps⟩ := h
  obtain ⟨v, fls, ps⟩ := p
  dsimp only at *
  obtain ⟨i0, hi, hz0, hz1, hz2⟩ := info_parts info_rulesOf
  obtain ⟨j0, gi, gz0, gz1, gz2⟩ := info_parts info_tabOf
  have hrun := fun w' => run_make (P := Try.prog) w' 69 37 j0 (.slice none 0 0) Try.underlying69 gi gz0 .i64 .i64 (n : Int) (n : Int) (by omega) (Int.le_refl _) (by rw [gz2]; omega) (by omega)
  rw [gz1, Nat.mul_one, Int.toNat_natCast] at hrun
  have hmk : ∀ w', (Instr.makeSlice 69 (.int .i64 n) (.int .i64 n)).run Try.prog w' = .ok (.slice (some ⟨w'.heap.size, 0, none⟩) n n) (w'.alloc (.cells (tblCells n (fun _ => (none, 0)) (fun _ => [])) 37)) := fun w' => by rw [← tblCells_start]; exact hrun w'
  clear hrun
  have HBG : Hid (∀ s : Nat, (rulesFrom v s 0 ps).length ≤ 5864062014800) := hbig
  have hst : Hid (∀ s : Nat, s < n → ([] : List Rule) ++ rulesFrom v s ((0 : Nat) : Int) (ps.drop 0) = rulesFrom v s 0 ps) := fun s _ => rfl
  have hlx := hps.len_le
  have hmx : max (n : Int) 0 = (n : Int) := by omega
  clear hbig
  go_enter Try.func22, Try.ntmps22
  go_wp2
  go_loopw [6, 7, 8, 9, 16] (fun _ _ _ _ idx wr => ∃ (j : Nat) (f : Nat → Option Addr × Nat) (tabs : Nat → List Rule), idx = .int .i64 j ∧ j ≤ ps.length ∧ Tbl wr (w.heap.size + 1) 37 88 n f tabs ∧ Hid (∀ s : Nat, s < n → tabs s ++ rulesFrom v s ((j : Nat) : Int) (ps.drop j) = rulesFrom v s 0 ps) ∧ blockIs wr w.heap.size 30 #[.int .i64 v, .slice fa fls.length fc, .slice pa ps.length pc] ∧ Below w.heap.size w wr) (fun _ _ _ _ idx _ => ps.length - (intOf idx).toNat)
  case atStart => exact ⟨0, _, _, rfl, Nat.zero_le _, Tbl.start (by simp), hst, (blockIs.new rfl).alloc _, by (repeat' (first | with_reducible exact Below.refl _ _ | with_reducible assumption | with_reducible refine Below.drew ?_ | with_reducible refine Below_drewN ?_ _ | with_reducible refine Below.alloc ?_ ?_ _ | with_reducible refine Below.setCell ?_ ?_ _ | omega | (simp; done) | (simp; omega)))⟩
  case round =>
    clear hst
    obtain ⟨j, f, tabs, rfl, hj, hT, hS, hP, hb⟩ := hrel
    rename World => wo
    obtain ⟨p1, p2⟩ := hP.cells
    have hPl := hP.lt
    by_cases hlt : j < ps.length
    case neg =>
      have hT9 := Lib.hid (hT.congr (tabs' := fun s => rulesAt ⟨v, fls, ps⟩ s) fun s hs => by have := hS.out s hs; rw [rulesFrom_end (by omega), List.append_nil] at this; exact this)
      have b1 : ¬ (j : Int) < (ps.length : Int) := by omega
      clear hS hT
      go_wp2
      go_ret; exact ⟨w.heap.size + 1, rfl, by omega, ⟨f, hT9.out⟩, hb⟩
    obtain ⟨pp, hpp⟩ : ∃ pp, ps[j]? = some pp := ⟨_, List.getElem?_eq_getElem hlt⟩
    obtain ⟨gb, go, pao, pcap, rfl, hgl, hpr, hce⟩ := sliceRow_get hps hpp
    have e0 := hce _ hb
    have hplen := hpr.len_le
    have b0 : (0 : Int) ≤ (j : Int) := by omega
    have b1 : (j : Int) < (ps.length : Int) := by omega
    have hst : Hid (∀ s : Nat, s < n → tabs s ++ (pathRules v j s (pp.drop 0) ++ rulesFrom v s ((j + 1 : Nat) : Int) (ps.drop (j + 1))) = rulesFrom v s 0 ps) := fun s hs => by have := hS.out s hs; rw [rulesFrom_step hpp] at this; exact this
    clear hS hce hpp
    go_wp2
    clear e0
    go_loopw [8, 9] (fun ii _ wr => ∃ (i : Nat) (f : Nat → Option Addr × Nat) (tabs : Nat → List Rule), ii = .int .i64 i ∧ (i = 0 ∨ i < pp.length) ∧ Tbl wr (w.heap.size + 1) 37 88 n f tabs ∧ Hid (∀ s : Nat, s < n → tabs s ++ (pathRules v j s (pp.drop i) ++ rulesFrom v s ((j + 1 : Nat) : Int) (ps.drop (j + 1))) = rulesFrom v s 0 ps) ∧ blockIs wr w.heap.size 30 #[.int .i64 v, .slice fa fls.length fc, .slice (some ⟨gb, go, none⟩) ps.length pc] ∧ Below w.heap.size w wr) (fun ii _ _ => pp.length - (intOf ii).toNat)
    case atStart => exact ⟨0, f, tabs, rfl, .inl rfl, hT, hst, hP, hb⟩
    case round =>
    clear hst hT hP hb p1 p2 hPl
    obtain ⟨i, f, tabs, rfl, hi0, hT, hS, hP, hb⟩ := hrel
    rename World => wi
    obtain ⟨p1, p2⟩ := hP.cells
    have hPl := hP.lt
    have k1 : IntKind.i64.wrap ((i : Int) + 1) = (i : Int) + 1 := IntWalk.i64_in _ (by omega)
    by_cases hil : i + 1 < pp.length
    case neg =>
      have hS2 : Hid (∀ s : Nat, s < n → tabs s ++ rulesFrom v s ((j + 1 : Nat) : Int) (ps.drop (j + 1)) = rulesFrom v s 0 ps) := fun s hs => by have := hS.out s hs; rw [pathRules_end (by omega), List.nil_append] at this; exact this
      have b2 : ¬ (i : Int) + 1 < (pp.length : Int) := by omega
      clear hS
      go_wp2
      case roundEnd =>
        go_roundw
        case rel => exact ⟨j + 1, f, tabs, by go_num, by omega, hT, hS2, hP, hb⟩
        case measure => simp [intOf] <;> omega
    obtain ⟨a, ha⟩ : ∃ a, pp[i]? = some a := ⟨_, List.getElem?_eq_getElem (by omega)⟩
    obtain ⟨y, hy⟩ : ∃ y, pp[i + 1]? = some y := ⟨_, List.getElem?_eq_getElem hil⟩
    obtain ⟨qb, qo, rfl, hql, haI, hca⟩ := intRow_get hpr ha
    obtain ⟨qb', qo', hqe, _, hyI, hcy⟩ := intRow_get hpr hy
    obtain ⟨rfl, rfl⟩ : qb = qb' ∧ qo = qo' := by simpa using hqe
    have e1 := hca _ hb
    have e2 := hcy _ hb
    have b2 : (i : Int) + 1 < (pp.length : Int) := by omega
    have b3 : (0 : Int) ≤ (i : Int) := by omega
    have b4 : (i : Int) < (pp.length : Int) := by omega
    have hzz := hb.size
    have HPS : Hid (∀ s : Nat, pathRules v j s (pp.drop i) = (if a = (s : Int) then [⟨v, j, y⟩] else []) ++ pathRules v j s (pp.drop (i + 1))) := fun s => pathRules_step ha hy
    clear ha hy hca hcy hqe
    by_cases hin : 0 ≤ a ∧ a < (n : Int)
    case neg =>
      have hS3 : Hid (∀ s : Nat, s < n → tabs s ++ (pathRules v j s (pp.drop (i + 1)) ++ rulesFrom v s ((j + 1 : Nat) : Int) (ps.drop (j + 1))) = rulesFrom v s 0 ps) := fun s hs => by
        have := hS.out s hs
        rw [HPS.out s, if_neg (by omega), List.nil_append] at this; exact this
      clear hS HPS
      by_cases o1 : a ≥ 0
      · have o2 : ¬ a < (n : Int) := by omega
        clear hin
        go_wp2
        case roundEnd =>
          go_roundw
          case rel => exact ⟨i + 1, f, tabs, by go_num, by omega, hT, hS3, hP, hb⟩
          case measure => simp [intOf] <;> omega
      · clear hin
        go_wp2
        case roundEnd =>
          go_roundw
          case rel => exact ⟨i + 1, f, tabs, by go_num, by omega, hT, hS3, hP, hb⟩
          case measure => simp [intOf] <;> omega
    obtain ⟨s, rfl⟩ : ∃ s : Nat, a = (s : Int) := ⟨a.toNat, by omega⟩
    have hsn : s < n := by omega
    have o1 : (s : Int) ≥ 0 := by omega
    have o2 : (s : Int) < (n : Int) := by omega
    have o3 : IntKind.i64.wrap (s : Int) = s := IntWalk.i64_in _ (by omega)
    have c9 := hT.cell hsn
    have hTl := hT.blk.lt
    have hown := hT.own s hsn
    have hlen : (tabs s).length + 1 ≤ 5864062014800 := by
      have h1 := HBG.out s
      rw [← hS.out s hsn, HPS.out s, if_pos rfl] at h1
      simp only [List.length_append, List.length_cons, List.length_nil] at h1; omega
    have hS3 : Hid (∀ s' : Nat, s' < n → upd tabs s (tabs s ++ [⟨v, j, y⟩]) s' ++ (pathRules v j s' (pp.drop (i + 1)) ++ rulesFrom v s' ((j + 1 : Nat) : Int) (ps.drop (j + 1))) = rulesFrom v s' 0 ps) := fun s' hs => by
      have h1 := hS.out s' hs
      rw [HPS.out s'] at h1
      by_cases he : s' = s
      · subst he
        rw [if_pos rfl] at h1
        rw [upd_same, ← h1]; simp
      · rw [if_neg (by omega), List.nil_append] at h1
        rw [upd_ne _ _ he]; exact h1
    have hjI : I64 (j : Int) := ⟨by omega, by omega⟩
    clear hS HPS hin
    go_wp2
    have hS0 : SO (w.heap.size + 1) s w.heap.size qb (qo + (i + 1)) (.slice (f s).1 (tabs s).length (f s).2) v y wi.drew := ⟨c9, p1 0, e2⟩
    refine wp_region_to (SO (w.heap.size + 1) s w.heap.size qb (qo + (i + 1)) (.slice (f s).1 (tabs s).length (f s).2) v y) 18 (fun a0 a' w' => ∃ v39 v40 v41 v42 v43 v44 v45 v46 v47 v48 v49 v50 v51 v52 v53 v54 v55 v56, a' = puts a0 [(39, v39), (40, v40), (41, v41), (42, v42), (43, v43), (44, v44), (45, v45), (46, v46), (47, v47), (48, v48), (49, v49), (50, v50), (51, v51), (52, v52), (53, v53), (54, v54), (55, v55), (56, v56)] ∧ ∃ ao cap, Tbl w' (w.heap.size + 1) 37 88 n (upd f s (ao, cap)) (upd tabs s (tabs s ++ [⟨v, j, y⟩])) ∧ blockIs w' w.heap.size 30 #[.int .i64 v, .slice fa fls.length fc, .slice (some ⟨gb, go, none⟩) ps.length pc] ∧ Below w.heap.size w w') (by kernel_rfl) ?_ ?_
    · intro Q' hR hQp
      have hb0 : Below wi.heap.size wi wi.drew := by (repeat' (first | with_reducible exact Below.refl _ _ | with_reducible assumption | with_reducible refine Below.drew ?_ | with_reducible refine Below_drewN ?_ _ | with_reducible refine Below.alloc ?_ ?_ _ | with_reducible refine Below.setCell ?_ ?_ _ | omega | (simp; done) | (simp; omega)))
      have hS : SO (w.heap.size + 1) s w.heap.size qb (qo + (i + 1)) (.slice (f s).1 (tabs s).length (f s).2) v y wi.drew := hS0
      generalize wi.drew = wa at *
      refine wpAnyK_take (i := 0) _ rfl (by kernel_rfl) (fun _ _ _ h => hQp _ _ _ _ h) hS (yields_value (by kernel_rfl) (by intro w0 hw0; have hw1 := hw0; simp only [SO] at hw1; first | (go_simp; done) | (go_simp; rfl))) ?_; simp only [Act.put, List.getElem_toArray, List.getElem_cons_succ, List.getElem_cons_zero, List.setIfInBounds_toArray, List.set_cons_succ, List.set_cons_zero]
      refine wpAnyK_take (i := 1) _ rfl (by kernel_rfl) (fun _ _ _ h => hQp _ _ _ _ h) hS (yields_value (by kernel_rfl) (by intro w0 hw0; have hw1 := hw0; simp only [SO] at hw1; first | (go_simp; done) | (go_simp; rfl))) ?_; simp only [Act.put, List.getElem_toArray, List.getElem_cons_succ, List.getElem_cons_zero, List.setIfInBounds_toArray, List.set_cons_succ, List.set_cons_zero]
      refine wpAnyK_take (i := 2) _ rfl (by kernel_rfl) (fun _ _ _ h => hQp _ _ _ _ h) hS (yields_value (by kernel_rfl) (by intro w0 hw0; have hw1 := hw0; simp only [SO] at hw1; first | (go_simp; done) | (go_simp; rfl))) ?_; simp only [Act.put, List.getElem_toArray, List.getElem_cons_succ, List.getElem_cons_zero, List.setIfInBounds_toArray, List.set_cons_succ, List.set_cons_zero]
      refine wpAnyK_take (i := 3) _ rfl (by kernel_rfl) (fun _ _ _ h => hQp _ _ _ _ h) hS (yields_value (by kernel_rfl) (by intro w0 hw0; have hw1 := hw0; simp only [SO] at hw1; first | (go_simp; done) | (go_simp; rfl))) ?_; simp only [Act.put, List.getElem_toArray, List.getElem_cons_succ, List.getElem_cons_zero, List.setIfInBounds_toArray, List.set_cons_succ, List.set_cons_zero]
      refine wpAnyK_take (i := 4) _ rfl (by kernel_rfl) (fun _ _ _ h => hQp _ _ _ _ h) hS (yields_value (by kernel_rfl) (by intro w0 hw0; have hw1 := hw0; simp only [SO] at hw1; first | (go_simp; done) | (go_simp; rfl))) ?_; simp only [Act.put, List.getElem_toArray, List.getElem_cons_succ, List.getElem_cons_zero, List.setIfInBounds_toArray, List.set_cons_succ, List.set_cons_zero]
      refine wpAnyK_take (i := 5) _ rfl (by kernel_rfl) (fun _ _ _ h => hQp _ _ _ _ h) hS (yields_value (by kernel_rfl) (by intro w0 hw0; have hw1 := hw0; simp only [SO] at hw1; first | (go_simp; done) | (go_simp; rfl))) ?_; simp only [Act.put, List.getElem_toArray, List.getElem_cons_succ, List.getElem_cons_zero, List.setIfInBounds_toArray, List.set_cons_succ, List.set_cons_zero]
      refine wpAnyK_take (i := 6) _ rfl (by kernel_rfl) (fun _ _ _ h => hQp _ _ _ _ h) hS (yields_value (by kernel_rfl) (by intro w0 hw0; have hw1 := hw0; simp only [SO] at hw1; first | (go_simp; done) | (go_simp; rfl))) ?_; simp only [Act.put, List.getElem_toArray, List.getElem_cons_succ, List.getElem_cons_zero, List.setIfInBounds_toArray, List.set_cons_succ, List.set_cons_zero]
      refine wpAnyK_take (i := 7) _ rfl (by kernel_rfl) (fun _ _ _ h => hQp _ _ _ _ h) hS (yields_value (by kernel_rfl) (by intro w0 hw0; have hw1 := hw0; simp only [SO] at hw1; first | (go_simp; done) | (go_simp; rfl))) ?_; simp only [Act.put, List.getElem_toArray, List.getElem_cons_succ, List.getElem_cons_zero, List.setIfInBounds_toArray, List.set_cons_succ, List.set_cons_zero]
      refine wpAnyK_take (i := 8) _ rfl (by kernel_rfl) (fun _ _ _ h => hQp _ _ _ _ h) hS (yields_value (by kernel_rfl) (by intro w0 hw0; have hw1 := hw0; simp only [SO] at hw1; first | (go_simp; done) | (go_simp; rfl))) ?_; simp only [Act.put, List.getElem_toArray, List.getElem_cons_succ, List.getElem_cons_zero, List.setIfInBounds_toArray, List.set_cons_succ, List.set_cons_zero]
      refine wpAnyK_take (i := 9) _ rfl (by kernel_rfl) (fun _ _ _ h => hQp _ _ _ _ h) hS (yields_value (by kernel_rfl) (by intro w0 hw0; have hw1 := hw0; simp only [SO] at hw1; first | (go_simp; done) | (go_simp; rfl))) ?_; simp only [Act.put, List.getElem_toArray, List.getElem_cons_succ, List.getElem_cons_zero, List.setIfInBounds_toArray, List.set_cons_succ, List.set_cons_zero]
      refine wpAnyK_take (i := 10) _ rfl (by kernel_rfl) (fun _ _ _ h => hQp _ _ _ _ h) hS (yields_value (by kernel_rfl) (by intro w0 hw0; have hw1 := hw0; simp only [SO] at hw1; first | (go_simp; done) | (go_simp; rfl))) ?_; simp only [Act.put, List.getElem_toArray, List.getElem_cons_succ, List.getElem_cons_zero, List.setIfInBounds_toArray, List.set_cons_succ, List.set_cons_zero]
      refine wpAnyK_take (i := 11) _ rfl (by kernel_rfl) (fun _ _ _ h => hQp _ _ _ _ h) hS (yields_value (by kernel_rfl) (by intro w0 hw0; have hw1 := hw0; simp only [SO] at hw1; first | (go_simp; done) | (go_simp; rfl))) ?_; simp only [Act.put, List.getElem_toArray, List.getElem_cons_succ, List.getElem_cons_zero, List.setIfInBounds_toArray, List.set_cons_succ, List.set_cons_zero]
      refine wpAnyK_take (i := 12) _ rfl (by kernel_rfl) (fun _ _ _ h => hQp _ _ _ _ h) hS (yields_value (by kernel_rfl) (by intro w0 hw0; have hw1 := hw0; simp only [SO] at hw1; first | (go_simp; done) | (go_simp; rfl))) ?_; simp only [Act.put, List.getElem_toArray, List.getElem_cons_succ, List.getElem_cons_zero, List.setIfInBounds_toArray, List.set_cons_succ, List.set_cons_zero]
      refine wpAnyK_take (i := 13) _ rfl (by kernel_rfl) (fun _ _ _ h => hQp _ _ _ _ h) hS (yields_value (by kernel_rfl) (by intro w0 hw0; have hw1 := hw0; simp only [SO] at hw1; first | (go_simp; done) | (go_simp; rfl))) ?_; simp only [Act.put, List.getElem_toArray, List.getElem_cons_succ, List.getElem_cons_zero, List.setIfInBounds_toArray, List.set_cons_succ, List.set_cons_zero]
      refine wpAnyK_take (i := 14) _ rfl (by kernel_rfl) (fun _ _ _ h => hQp _ _ _ _ h) hS (yields_value (by kernel_rfl) (by intro w0 hw0; have hw1 := hw0; simp only [SO] at hw1; first | (go_simp; done) | (go_simp; rfl))) ?_; simp only [Act.put, List.getElem_toArray, List.getElem_cons_succ, List.getElem_cons_zero, List.setIfInBounds_toArray, List.set_cons_succ, List.set_cons_zero]
      have hwz : wi.heap.size ≤ wa.heap.size := hb0.size
      clear hS
      refine wpAnyK_call (i := 15) rfl (by kernel_rfl) (by kernel_rfl) fun K15 hK15 => ?_
      go_simp
      go_wp2_with fail
      have hb3 : Below wa.heap.size wa (wa.alloc (.cells #[.int .i64 v, .int .i64 j, .int .i64 y] 88)) := by (repeat' (first | with_reducible exact Below.refl _ _ | with_reducible assumption | with_reducible refine Below.drew ?_ | with_reducible refine Below_drewN ?_ _ | with_reducible refine Below.alloc ?_ ?_ _ | with_reducible refine Below.setCell ?_ ?_ _ | omega | (simp; done) | (simp; omega)))
      have hsr : srcRep ruleS (fun _ => False) (wa.alloc (.cells #[.int .i64 v, .int .i64 j, .int .i64 y] 88)) (some ⟨wa.heap.size, 0, none⟩) [⟨v, j, y⟩] := srcRep.rule ⟨v, j, y⟩ rfl hv hjI hyI
      refine hK15 _ _ (fun _ => hS0.under (by omega) (by omega) (by omega) hb3) ?_
      clear hK15
      generalize wa.alloc (.cells #[.int .i64 v, .int .i64 j, .int .i64 y] 88) = wx at *
      have hb4 : Below wi.heap.size wi wx := hb0.trans (hb3.mono hwz)
      have hT4 := hT.under hb4
      have hP4 := hP.under hb4
      have hB4 : Below w.heap.size w wx := hb.trans (hb4.mono hb.size)
      have hown4 := hT4.own s hsn
      have hxz := hb3.size
      refine wpAnyK_call (i := 16) rfl (by kernel_rfl) (by kernel_rfl) fun K16 hK16 => ?_
      refine wp_appR (sh := ruleS) (n := (tabs s).length) (m := 1) (c := 1) (.tmp 44) (.tmp 54) 37 (by rfl) 88 i0 (.agg #[.int .i64 0, .int .i64 0, .int .i64 0]) 24 Try.underlying37 hi hz0 hz1 hz2 rfl (by decide) (ok := fun _ => False) (base := w.heap.size + 1 + 1) (by rfl) hown4 (by rfl) rfl hsr (by simp only [maxLen]; omega) (by omega) (by omega) ?_
      intro ao cap wy ho hg hlie
      have hb5 : Below (w.heap.size + 1 + 1) wx wy := grown_below hg (fun k hk => (hown4.lt k hk).1) (by omega)
      simp only [Act.put, List.getElem_toArray, List.getElem_cons_succ, List.getElem_cons_zero, List.setIfInBounds_toArray, List.set_cons_succ, List.set_cons_zero]
      have hP5 : blockIs wy w.heap.size 30 #[.int .i64 v, .slice fa fls.length fc, .slice (some ⟨gb, go, none⟩) ps.length pc] := hP4.keep (hb5.block _ (by omega))
      have hob5 : wy.cell? ⟨w.heap.size + 1, s, none⟩ = some (.slice (f s).1 (tabs s).length (f s).2) := cell_at hb5 (by omega) (hT4.cell hsn)
      have hfz5 : wy.frozen? ⟨w.heap.size + 1, s, none⟩ = false := by
        have := hb5.frozen (p := ⟨w.heap.size + 1, s, none⟩) (by simp)
        rw [this]; exact hT4.blk.cells.2 s
      have hT5 := hT4.put hsn (by simp) ho hg hlie
      have hS5 : SO (w.heap.size + 1) s w.heap.size qb (qo + (i + 1)) (.slice (f s).1 (tabs s).length (f s).2) v y wy := ⟨hob5, hP5.cells.1 0, cell_at (hB4.trans (hb5.mono (by omega))) hql (by have := e2; exact (hb.cell (p := ⟨qb, qo + (i + 1), none⟩) hql).symm.trans this)⟩
      refine hK16 _ _ (fun _ => hS5) ?_
      clear hK16
      refine wpAnyK_call (i := 17) rfl (by kernel_rfl) (by kernel_rfl) fun K17 hK17 => ?_
      go_simp
      go_wp2_with fail
      refine hK17 _ _ (fun _ => hS5) ?_
      clear hK17
      refine wpAnyK_call (i := 18) rfl (by kernel_rfl) (by kernel_rfl) fun K18 hK18 => ?_
      go_simp
      go_wp2_with fail
      refine hK18 _ _ (fun h => absurd rfl h) ?_
      clear hK18
      refine wpAnyK_done (by kernel_rfl) ?_ _
      refine hR _ _ ?_
      iterate 18 apply Exists.intro
      refine ⟨?_, ⟨ao, cap, hT5, hP5.setOther (by simp) _, (hB4.trans (hb5.mono (by omega))).setCell (p := ⟨w.heap.size + 1, s, none⟩) (Nat.le_succ _) _⟩⟩
      simp only [puts, Act.put, List.setIfInBounds_toArray, List.set_cons_succ, List.set_cons_zero]
      rfl
    rintro a' w8 ⟨v39, v40, v41, v42, v43, v44, v45, v46, v47, v48, v49, v50, v51, v52, v53, v54, v55, v56, rfl, hb8⟩
    simp only [puts, Act.put, List.setIfInBounds_toArray, List.set_cons_succ, List.set_cons_zero]
    obtain ⟨ao, cap, hT8, hP8, hb9⟩ := hb8
    go_wp2
    case roundEnd =>
      go_roundw
      case rel => exact ⟨i + 1, _, _, by go_num, by omega, hT8, hS3, hP8, hb9⟩
      case measure => simp [intOf] <;> omega

end Go.Proofs.Ytagldmdeohenjaa

/-
  The walk of the document's Rules.
-/
set_option linter.unusedSimpArgs false
set_option linter.unusedVariables false
namespace Go.St
open Go.RowKit
theorem pathRules_skip {v f s : Int} {p : List Int} {i : Nat} {a : Int} (ha : p[i]? = some a) (hn : ¬ (a = s ∧ i + 1 < p.length)) : pathRules v f s (p.drop i) = pathRules v f s (p.drop (i + 1)) := by
  by_cases hl : i + 1 < p.length
  · obtain ⟨y, hy⟩ : ∃ y, p[i + 1]? = some y := ⟨_, List.getElem?_eq_getElem hl⟩
    rw [pathRules_step ha hy, if_neg (fun h => hn ⟨h, hl⟩), List.nil_append]
  · rw [pathRules_end (by omega), pathRules_end (by omega)]
/-- what is read for a rule -/
def SU (wb qb qo : Nat) (v y : Int) (w : World) : Prop := w.cell? ⟨wb, 0, none⟩ = some (.int .i64 v) ∧ w.cell? ⟨qb, qo, none⟩ = some (.int .i64 y)
theorem SU.under {wb qb qo N : Nat} {v y : Int} {w w' : World} (h : SU wb qb qo v y w) (h1 : wb < N) (h2 : qb < N) (hb : Below N w w') : SU wb qb qo v y w' := ⟨cell_at hb h1 h.1, cell_at hb h2 h.2⟩
end Go.St
namespace Go.Proofs.Ytagldmdeohenjaa
open Go.RowKit Go.St

set_option maxRecDepth 100000 in
set_option maxHeartbeats 8000000 in
theorem refRules_c (p : Plan) (s : Int) (cs : List Value) (ok : Nat → Prop) (w : World) (h : planS.rep ok w cs p) (hbig : (rulesAt p s).length ≤ 5864062014800) (hpl : p.paths.length ≤ 100000000000000) :
    Calls Try.prog 30 #[.agg cs.toArray, .int .i64 s] w fun e w' => ∃ ao cap, e = .returned (.slice ao (rulesAt p s).length cap) ∧ rowRep ruleS (fun b => w.heap.size ≤ b) w' ao cap (rulesAt p s) ∧ Below w.heap.size w w' := by
  obtain ⟨fa, fc, pa, pc, rfl, hv, hfl, hps⟩ := h
  obtain ⟨v, fls, ps⟩ := p
  dsimp only at *
  obtain ⟨i0, hi, hz0, hz1, hz2⟩ := info_parts info_rulesOf
  have hst : Hid (([] : List Rule) ++ rulesFrom v s ((0 : Nat) : Int) (ps.drop 0) = rulesAt ⟨v, fls, ps⟩ s) := rfl
  have hlx := hps.len_le
  generalize rulesAt ⟨v, fls, ps⟩ s = R at *
  go_enter Try.func30, Try.ntmps30
  go_wp2
  go_loopw [5, 6, 7, 8, 9, 13] (fun ov _ _ _ _ idx wr => ∃ (j : Nat) (out : List Rule) (ao : Option Addr) (cap : Nat), idx = .int .i64 j ∧ j ≤ ps.length ∧ ov = .slice ao out.length cap ∧ ownR ruleS 88 (fun _ => False) (w.heap.size + 1) wr ao out.length cap out ∧ Hid (out ++ rulesFrom v s ((j : Nat) : Int) (ps.drop j) = R) ∧ blockIs wr w.heap.size 30 #[.int .i64 v, .slice fa fls.length fc, .slice pa ps.length pc] ∧ Below w.heap.size w wr) (fun _ _ _ _ _ idx _ => ps.length - (intOf idx).toNat)
  case atStart => exact ⟨0, [], none, 0, rfl, Nat.zero_le _, rfl, ownR.nil' _ _ _ _, hst, blockIs.new rfl, by (repeat' (first | with_reducible exact Below.refl _ _ | with_reducible assumption | with_reducible refine Below.drew ?_ | with_reducible refine Below_drewN ?_ _ | with_reducible refine Below.alloc ?_ ?_ _ | with_reducible refine Below.setCell ?_ ?_ _ | omega | (simp; done) | (simp; omega)))⟩
  case round =>
    clear hst
    obtain ⟨j, out, ao, cap, rfl, hj, rfl, hown, hS, hP, hb⟩ := hrel
    rename World => wo
    obtain ⟨p1, p2⟩ := hP.cells
    have hPl := hP.lt
    by_cases hlt : j < ps.length
    case neg =>
      have hE : out = R := by have := hS.out; rw [rulesFrom_end (by omega), List.append_nil] at this; exact this
      subst hE
      have b1 : ¬ (j : Int) < (ps.length : Int) := by omega
      have hrow : rowRep ruleS (fun b => w.heap.size ≤ b) wo ao cap out := hown.row (fun _ h => h.elim) (fun k hk => by have := (hown.lt k hk).1; omega)
      clear hS hown
      go_wp2
      go_ret; exact ⟨ao, cap, rfl, hrow, hb⟩
    obtain ⟨pp, hpp⟩ : ∃ pp, ps[j]? = some pp := ⟨_, List.getElem?_eq_getElem hlt⟩
    obtain ⟨gb, go, pao, pcap, rfl, hgl, hpr, hce⟩ := sliceRow_get hps hpp
    have e0 := hce _ hb
    have hplen := hpr.len_le
    have b0 : (0 : Int) ≤ (j : Int) := by omega
    have b1 : (j : Int) < (ps.length : Int) := by omega
    have hst : Hid (out ++ (pathRules v j s (pp.drop 0) ++ rulesFrom v s ((j + 1 : Nat) : Int) (ps.drop (j + 1))) = R) := by have := hS.out; rw [rulesFrom_step hpp] at this; exact this
    have hjI : I64 (j : Int) := ⟨by omega, by omega⟩
    clear hS hce hpp
    go_wp2
    clear e0
    go_loopw [5, 8, 9, 20] (fun ov _ _ ii wr => ∃ (i : Nat) (out : List Rule) (ao : Option Addr) (cap : Nat), ii = .int .i64 i ∧ i ≤ pp.length ∧ ov = .slice ao out.length cap ∧ ownR ruleS 88 (fun _ => False) (w.heap.size + 1) wr ao out.length cap out ∧ Hid (out ++ (pathRules v j s (pp.drop i) ++ rulesFrom v s ((j + 1 : Nat) : Int) (ps.drop (j + 1))) = R) ∧ blockIs wr w.heap.size 30 #[.int .i64 v, .slice fa fls.length fc, .slice (some ⟨gb, go, none⟩) ps.length pc] ∧ Below w.heap.size w wr) (fun _ _ _ ii _ => pp.length - (intOf ii).toNat)
    case atStart => exact ⟨0, out, ao, cap, rfl, Nat.zero_le _, rfl, hown, hst, hP, hb⟩
    case round =>
    clear hst hown hP hb p1 p2 hPl
    obtain ⟨i, out, ao, cap, rfl, hi0, rfl, hown, hS, hP, hb⟩ := hrel
    rename World => wi
    obtain ⟨p1, p2⟩ := hP.cells
    have hPl := hP.lt
    by_cases hil : i < pp.length
    case neg =>
      have hS2 : Hid (out ++ rulesFrom v s ((j + 1 : Nat) : Int) (ps.drop (j + 1)) = R) := by have := hS.out; rw [pathRules_end (by omega), List.nil_append] at this; exact this
      have b2 : ¬ (i : Int) < (pp.length : Int) := by omega
      clear hS
      go_wp2
      case roundEnd =>
        go_roundw
        case rel => exact ⟨j + 1, out, ao, cap, by go_num, by omega, rfl, hown, hS2, hP, hb⟩
        case measure => simp [intOf] <;> omega
    obtain ⟨a, ha⟩ : ∃ a, pp[i]? = some a := ⟨_, List.getElem?_eq_getElem hil⟩
    obtain ⟨qb, qo, rfl, hql, haI, hca⟩ := intRow_get hpr ha
    have e1 := hca _ hb
    have b2 : (i : Int) < (pp.length : Int) := by omega
    have b3 : (0 : Int) ≤ (i : Int) := by omega
    have k1 : IntKind.i64.wrap ((i : Int) + 1) = (i : Int) + 1 := IntWalk.i64_in _ (by omega)
    have k2 : IntKind.i64.wrap ((pp.length : Int) - 1) = (pp.length : Int) - 1 := IntWalk.i64_in _ (by omega)
    have hzz := hb.size
    have HSK : Hid (¬ (a = s ∧ i + 1 < pp.length) → out ++ (pathRules v j s (pp.drop (i + 1)) ++ rulesFrom v s ((j + 1 : Nat) : Int) (ps.drop (j + 1))) = R) := fun h => by rw [← pathRules_skip ha h]; exact hS.out
    by_cases has : a = s
    case neg =>
      have b4 : (a == s) = false := by rw [beq_eq_false_iff_ne]; exact has
      have hS3 : Hid (out ++ (pathRules v j s (pp.drop (i + 1)) ++ rulesFrom v s ((j + 1 : Nat) : Int) (ps.drop (j + 1))) = R) := HSK.out fun h => has h.1
      clear hS HSK has hca ha
      go_wp2
      case roundEnd =>
        go_roundw
        case rel => exact ⟨i + 1, out, ao, cap, by go_num, by omega, rfl, hown, hS3, hP, hb⟩
        case measure => simp [intOf] <;> omega
    subst has
    by_cases hlast : i + 1 < pp.length
    case neg =>
      have b5 : ¬ (i : Int) < (pp.length : Int) - 1 := by omega
      have hS3 : Hid (out ++ (pathRules v j a (pp.drop (i + 1)) ++ rulesFrom v a ((j + 1 : Nat) : Int) (ps.drop (j + 1))) = R) := HSK.out fun h => hlast h.2
      clear hS HSK hca ha
      go_wp2
      case roundEnd =>
        go_roundw
        case rel => exact ⟨i + 1, out, ao, cap, by go_num, by omega, rfl, hown, hS3, hP, hb⟩
        case measure => simp [intOf] <;> omega
    obtain ⟨y, hy⟩ : ∃ y, pp[i + 1]? = some y := ⟨_, List.getElem?_eq_getElem hlast⟩
    obtain ⟨qb', qo', hqe, _, hyI, hcy⟩ := intRow_get hpr hy
    obtain ⟨rfl, rfl⟩ : qb = qb' ∧ qo = qo' := by simpa using hqe
    have e2 := hcy _ hb
    have b5 : (i : Int) < (pp.length : Int) - 1 := by omega
    have b6 : (i : Int) + 1 < (pp.length : Int) := by omega
    have hS3 : Hid ((out ++ [⟨v, j, y⟩]) ++ (pathRules v j a (pp.drop (i + 1)) ++ rulesFrom v a ((j + 1 : Nat) : Int) (ps.drop (j + 1))) = R) := by
      have h1 := hS.out
      rw [pathRules_step ha hy, if_pos rfl] at h1
      show _ = R
      rw [← h1]; simp
    have hlen : out.length + 1 ≤ 5864062014800 := by
      have h1 := hS3.out
      rw [← h1] at hbig
      simp only [List.length_append, List.length_cons, List.length_nil] at hbig; omega
    have hll : (out ++ [(⟨v, j, y⟩ : Rule)]).length = out.length + 1 := by simp
    clear hS HSK hca hcy ha hy hqe hlast
    go_wp2
    have hS0 : SU w.heap.size qb (qo + (i + 1)) v y wi.drew := ⟨p1 0, e2⟩
    refine wp_region_to (SU w.heap.size qb (qo + (i + 1)) v y) 99 (fun a0 a' w' => ∃ v5 v35 v36 v37 v38 v39 v40 v41 v42 v43 v44 v45 v46, a' = puts a0 [(5, v5), (35, v35), (36, v36), (37, v37), (38, v38), (39, v39), (40, v40), (41, v41), (42, v42), (43, v43), (44, v44), (45, v45), (46, v46)] ∧ ∃ ao' cap', v5 = .slice ao' (out.length + 1) cap' ∧ ownR ruleS 88 (fun _ => False) (w.heap.size + 1) w' ao' (out.length + 1) cap' (out ++ [⟨v, j, y⟩]) ∧ Below (w.heap.size + 1) wi w') (by kernel_rfl) ?_ ?_
    · intro Q' hR hQp
      have hb0 : Below wi.heap.size wi wi.drew := by (repeat' (first | with_reducible exact Below.refl _ _ | with_reducible assumption | with_reducible refine Below.drew ?_ | with_reducible refine Below_drewN ?_ _ | with_reducible refine Below.alloc ?_ ?_ _ | with_reducible refine Below.setCell ?_ ?_ _ | omega | (simp; done) | (simp; omega)))
      have hS : SU w.heap.size qb (qo + (i + 1)) v y wi.drew := hS0
      generalize wi.drew = wa at *
      refine wpAnyK_take' (i := 0) _ rfl (by kernel_rfl) (fun _ _ _ h => hQp _ _ _ _ h) hS (yields_value (by kernel_rfl) (by intro w0 hw0; have hw1 := hw0; simp only [SU] at hw1; first | (go_simp; done) | (go_simp; rfl))) ?_; simp only [Act.put, List.getElem_toArray, List.getElem_cons_succ, List.getElem_cons_zero, List.setIfInBounds_toArray, List.set_cons_succ, List.set_cons_zero]
      refine wpAnyK_take' (i := 1) _ rfl (by kernel_rfl) (fun _ _ _ h => hQp _ _ _ _ h) hS (yields_value (by kernel_rfl) (by intro w0 hw0; have hw1 := hw0; simp only [SU] at hw1; first | (go_simp; done) | (go_simp; rfl))) ?_; simp only [Act.put, List.getElem_toArray, List.getElem_cons_succ, List.getElem_cons_zero, List.setIfInBounds_toArray, List.set_cons_succ, List.set_cons_zero]
      refine wpAnyK_take' (i := 2) _ rfl (by kernel_rfl) (fun _ _ _ h => hQp _ _ _ _ h) hS (yields_value (by kernel_rfl) (by intro w0 hw0; have hw1 := hw0; simp only [SU] at hw1; first | (go_simp; done) | (go_simp; rfl))) ?_; simp only [Act.put, List.getElem_toArray, List.getElem_cons_succ, List.getElem_cons_zero, List.setIfInBounds_toArray, List.set_cons_succ, List.set_cons_zero]
      refine wpAnyK_take' (i := 3) _ rfl (by kernel_rfl) (fun _ _ _ h => hQp _ _ _ _ h) hS (yields_value (by kernel_rfl) (by intro w0 hw0; have hw1 := hw0; simp only [SU] at hw1; first | (go_simp; done) | (go_simp; rfl))) ?_; simp only [Act.put, List.getElem_toArray, List.getElem_cons_succ, List.getElem_cons_zero, List.setIfInBounds_toArray, List.set_cons_succ, List.set_cons_zero]
      refine wpAnyK_take' (i := 4) _ rfl (by kernel_rfl) (fun _ _ _ h => hQp _ _ _ _ h) hS (yields_value (by kernel_rfl) (by intro w0 hw0; have hw1 := hw0; simp only [SU] at hw1; first | (go_simp; done) | (go_simp; rfl))) ?_; simp only [Act.put, List.getElem_toArray, List.getElem_cons_succ, List.getElem_cons_zero, List.setIfInBounds_toArray, List.set_cons_succ, List.set_cons_zero]
      refine wpAnyK_take' (i := 5) _ rfl (by kernel_rfl) (fun _ _ _ h => hQp _ _ _ _ h) hS (yields_value (by kernel_rfl) (by intro w0 hw0; have hw1 := hw0; simp only [SU] at hw1; first | (go_simp; done) | (go_simp; rfl))) ?_; simp only [Act.put, List.getElem_toArray, List.getElem_cons_succ, List.getElem_cons_zero, List.setIfInBounds_toArray, List.set_cons_succ, List.set_cons_zero]
      refine wpAnyK_take' (i := 6) _ rfl (by kernel_rfl) (fun _ _ _ h => hQp _ _ _ _ h) hS (yields_value (by kernel_rfl) (by intro w0 hw0; have hw1 := hw0; simp only [SU] at hw1; first | (go_simp; done) | (go_simp; rfl))) ?_; simp only [Act.put, List.getElem_toArray, List.getElem_cons_succ, List.getElem_cons_zero, List.setIfInBounds_toArray, List.set_cons_succ, List.set_cons_zero]
      refine wpAnyK_take' (i := 7) _ rfl (by kernel_rfl) (fun _ _ _ h => hQp _ _ _ _ h) hS (yields_value (by kernel_rfl) (by intro w0 hw0; have hw1 := hw0; simp only [SU] at hw1; first | (go_simp; done) | (go_simp; rfl))) ?_; simp only [Act.put, List.getElem_toArray, List.getElem_cons_succ, List.getElem_cons_zero, List.setIfInBounds_toArray, List.set_cons_succ, List.set_cons_zero]
      refine wpAnyK_take' (i := 8) _ rfl (by kernel_rfl) (fun _ _ _ h => hQp _ _ _ _ h) hS (yields_value (by kernel_rfl) (by intro w0 hw0; have hw1 := hw0; simp only [SU] at hw1; first | (go_simp; done) | (go_simp; rfl))) ?_; simp only [Act.put, List.getElem_toArray, List.getElem_cons_succ, List.getElem_cons_zero, List.setIfInBounds_toArray, List.set_cons_succ, List.set_cons_zero]
      refine wpAnyK_take' (i := 9) _ rfl (by kernel_rfl) (fun _ _ _ h => hQp _ _ _ _ h) hS (yields_value (by kernel_rfl) (by intro w0 hw0; have hw1 := hw0; simp only [SU] at hw1; first | (go_simp; done) | (go_simp; rfl))) ?_; simp only [Act.put, List.getElem_toArray, List.getElem_cons_succ, List.getElem_cons_zero, List.setIfInBounds_toArray, List.set_cons_succ, List.set_cons_zero]
      have hwz : wi.heap.size ≤ wa.heap.size := hb0.size
      have hb3 : Below wa.heap.size wa (wa.alloc (.cells #[.int .i64 v, .int .i64 j, .int .i64 y] 88)) := by (repeat' (first | with_reducible exact Below.refl _ _ | with_reducible assumption | with_reducible refine Below.drew ?_ | with_reducible refine Below_drewN ?_ _ | with_reducible refine Below.alloc ?_ ?_ _ | with_reducible refine Below.setCell ?_ ?_ _ | omega | (simp; done) | (simp; omega)))
      have hsr : srcRep ruleS (fun _ => False) (wa.alloc (.cells #[.int .i64 v, .int .i64 j, .int .i64 y] 88)) (some ⟨wa.heap.size, 0, none⟩) [⟨v, j, y⟩] := srcRep.rule ⟨v, j, y⟩ rfl hv hjI hyI
      clear hS
      refine wpAnyK_call (i := 10) rfl (by kernel_rfl) (by kernel_rfl) fun K10 hK10 => ?_
      go_simp
      go_wp2_with fail
      have hS : _ := hS0.under (N := wa.heap.size) (by omega) (by omega) hb3
      refine hK10 _ _ (fun _ => hS) ?_
      clear hK10
      generalize wa.alloc (.cells #[.int .i64 v, .int .i64 j, .int .i64 y] 88) = wx at *
      have hb4 : Below (w.heap.size + 1) wi wx := (hb0.trans (hb3.mono hwz)).mono (by omega)
      have hown4 := hown.below (hb0.trans (hb3.mono hwz))
      have hxz := hb3.size
      clear hS
      refine wpAnyK_call (i := 11) rfl (by kernel_rfl) (by kernel_rfl) fun K11 hK11 => ?_
      refine wp_appR (sh := ruleS) (n := out.length) (m := 1) (c := 1) (.tmp 35) (.tmp 45) 37 (by rfl) 88 i0 (.agg #[.int .i64 0, .int .i64 0, .int .i64 0]) 24 Try.underlying37 hi hz0 hz1 hz2 rfl (by decide) (ok := fun _ => False) (base := w.heap.size + 1) (by rfl) hown4 (by rfl) rfl hsr (by simp only [maxLen]; omega) (by omega) (by omega) ?_
      intro ao' cap' wy ho hg hlie
      have hb5 : Below (w.heap.size + 1) wx wy := grown_below hg (fun k hk => (hown4.lt k hk).1) (by omega)
      simp only [Act.put, List.getElem_toArray, List.getElem_cons_succ, List.getElem_cons_zero, List.setIfInBounds_toArray, List.set_cons_succ, List.set_cons_zero]
      have hb6 : Below (w.heap.size + 1) wi wy := hb4.trans hb5
      have hSw : SU w.heap.size qb (qo + (i + 1)) v y wi := ⟨p1 0, e2⟩
      have hS : _ := hSw.under (by omega) (by omega) hb6
      refine hK11 _ _ (fun _ => hS) ?_
      clear hK11
      refine wpAnyK_take' (i := 12) _ rfl (by kernel_rfl) (fun _ _ _ h => hQp _ _ _ _ h) hS (yields_value (by kernel_rfl) (by intro w0 hw0; have hw1 := hw0; simp only [SU] at hw1; first | (go_simp; done) | (go_simp; rfl))) ?_; simp only [Act.put, List.getElem_toArray, List.getElem_cons_succ, List.getElem_cons_zero, List.setIfInBounds_toArray, List.set_cons_succ, List.set_cons_zero]
      refine wpAnyK_done (by kernel_rfl) ?_ _
      refine hR _ _ ?_
      iterate 13 apply Exists.intro
      refine ⟨?_, ⟨ao', cap', rfl, ho, hb6⟩⟩
      simp only [puts, Act.put, List.setIfInBounds_toArray, List.set_cons_succ, List.set_cons_zero]
      rfl
    rintro a' w8 ⟨v5, v35, v36, v37, v38, v39, v40, v41, v42, v43, v44, v45, v46, rfl, hb8⟩
    simp only [puts, Act.put, List.setIfInBounds_toArray, List.set_cons_succ, List.set_cons_zero]
    obtain ⟨ao', cap', rfl, ho8, hb9⟩ := hb8
    have hP8 := hP.below hb9 (by omega)
    have hB8 : Below w.heap.size w w8 := hb.trans (hb9.mono (by omega))
    go_wp2
    case roundEnd =>
      go_roundw
      case rel => exact ⟨i + 1, _, ao', cap', by go_num, by omega, by rw [hll], by rw [hll]; exact ho8, hS3, hP8, hB8⟩
      case measure => simp [intOf] <;> omega

end Go.Proofs.Ytagldmdeohenjaa

/-
  Two lists of rules held against each other: the walk of SameRules.
-/
set_option linter.unusedSimpArgs false
set_option linter.unusedVariables false
namespace Go.Proofs.Ytagldmdeohenjaa
open Go.RowKit Go.St

theorem neq_rule (x y : Rule) (w : World) : (binOp .neq 88 (.agg #[.int .i64 x.ver, .int .i64 x.flow, .int .i64 x.next]) (.agg #[.int .i64 y.ver, .int .i64 y.flow, .int .i64 y.next])).run Try.prog w = .ok (.bool (!decide (x = y))) w := by
  obtain ⟨a, b, c⟩ := x
  obtain ⟨d, e, f⟩ := y
  rw [run_neq_struct, run_equalIn_agg _ _ _ _ _ (by kernel_rfl) (by kernel_rfl)]
  by_cases h1 : a = d <;> by_cases h2 : b = e <;> by_cases h3 : c = f <;> simp [go_sem, h1, h2, h3, Rule.mk.injEq]

set_option maxRecDepth 100000 in
set_option maxHeartbeats 4000000 in
theorem sameRules_c (xs ys : List Rule) (ok ok' : Nat → Prop) (ax ay : Option Addr) (cx cy : Nat) (w : World) (hx : rowRep ruleS ok w ax cx xs) (hy : rowRep ruleS ok' w ay cy ys) :
    Calls Try.prog 45 #[.slice ax xs.length cx, .slice ay ys.length cy] w fun e w' => e = .returned (.bool (xs == ys)) ∧ Below w.heap.size w w' := by
  have q1 : Try.prog.eqGuardType Try.prog.depth 88 = false := by kernel_rfl
  by_cases hl : xs.length = ys.length
  case neg =>
    rw [ne_of_length hl]
    have hl' : ((xs.length : Int) == (ys.length : Int)) = false := by rw [beq_eq_false_iff_ne]; omega
    clear hl
    go_enter Try.func45, Try.ntmps45
    go_wp2
    go_ret; exact ⟨rfl, by (repeat' (first | with_reducible exact Below.refl _ _ | with_reducible assumption | with_reducible refine Below.drew ?_ | with_reducible refine Below_drewN ?_ _ | with_reducible refine Below.alloc ?_ ?_ _ | with_reducible refine Below.setCell ?_ ?_ _ | omega | (simp; done) | (simp; omega)))⟩
  have hl' : ((xs.length : Int) == (ys.length : Int)) = true := by rw [beq_iff_eq]; omega
  have hlx := hx.len_le
  have HL := Lib.hid hl
  clear hl
  go_enter Try.func45, Try.ntmps45
  go_wp2
  go_loopw [13] (fun i wr => ∃ j : Nat, j ≤ xs.length ∧ i = .int .i64 j ∧ Hid ((xs == ys) = sameFrom xs ys j) ∧ Below w.heap.size w wr) (fun i _ => xs.length - (intOf i).toNat)
  case atStart => exact ⟨0, Nat.zero_le _, rfl, sameFrom_start _ _, Below.refl _ _⟩
  case round =>
    obtain ⟨j, hj, rfl, hall, hb⟩ := hrel
    by_cases hlt : j < xs.length
    · have hlt2 : j < ys.length := by have := HL.out; omega
      obtain ⟨b, off, rfl, _, hbl, cs, hcs, hce⟩ := hx.get (List.getElem?_eq_getElem hlt)
      obtain ⟨rfl, hi1, _, _⟩ := hcs
      have e0 := cell_at hb hbl (hce 0 _ rfl)
      have e01 := cell_at hb hbl (hce 1 _ rfl)
      have e02 := cell_at hb hbl (hce 2 _ rfl)
      clear hce
      obtain ⟨b', off', rfl, _, hbl', cs', hcs', hce'⟩ := hy.get (List.getElem?_eq_getElem hlt2)
      obtain ⟨rfl, hi2, _, _⟩ := hcs'
      have e1 := cell_at hb hbl' (hce' 0 _ rfl)
      have e11 := cell_at hb hbl' (hce' 1 _ rfl)
      have e12 := cell_at hb hbl' (hce' 2 _ rfl)
      clear hce'
      simp only [ruleS, Nat.add_zero] at e0 e01 e02 e1 e11 e12
      have b0 : (0 : Int) ≤ (j : Int) := by omega
      have b1 : (j : Int) < (xs.length : Int) := by omega
      have b2 : (j : Int) < (ys.length : Int) := by omega
      have hq := neq_rule xs[j] ys[j]
      go_wp2
      go_quiet (fail)
      go_wp2
      case roundEnd =>
        go_roundw
        case rel => exact ⟨j + 1, by omega, by go_num, sameFrom_good hlt hlt2 hall.out (by (try simp only [beq_iff_eq, beq_eq_false_iff_ne, bne_iff_ne, bne_eq_false_iff_eq, ne_eq, Bool.not_eq_true', Bool.not_eq_false', decide_eq_true_eq, decide_eq_false_iff_not] at *); assumption), by (repeat' (first | with_reducible exact Below.refl _ _ | with_reducible assumption | with_reducible refine Below.drew ?_ | with_reducible refine Below_drewN ?_ _ | with_reducible refine Below.alloc ?_ ?_ _ | with_reducible refine Below.setCell ?_ ?_ _ | omega | (simp; done) | (simp; omega)))⟩
        case measure => simp [intOf]; omega
      all_goals (go_ret; exact ⟨ret_bool (sameFrom_bad hlt hlt2 hall.out (by (try simp only [beq_iff_eq, beq_eq_false_iff_ne, bne_iff_ne, bne_eq_false_iff_eq, ne_eq, Bool.not_eq_true', Bool.not_eq_false', decide_eq_true_eq, decide_eq_false_iff_not] at *); assumption)).symm, by (repeat' (first | with_reducible exact Below.refl _ _ | with_reducible assumption | with_reducible refine Below.drew ?_ | with_reducible refine Below_drewN ?_ _ | with_reducible refine Below.alloc ?_ ?_ _ | with_reducible refine Below.setCell ?_ ?_ _ | omega | (simp; done) | (simp; omega)))⟩)
    · go_wp2
      go_ret; exact ⟨ret_bool (sameFrom_end (by omega) (by have := HL.out; omega) hall.out), by (repeat' (first | with_reducible exact Below.refl _ _ | with_reducible assumption | with_reducible refine Below.drew ?_ | with_reducible refine Below_drewN ?_ _ | with_reducible refine Below.alloc ?_ ?_ _ | with_reducible refine Below.setCell ?_ ?_ _ | omega | (simp; done) | (simp; omega)))⟩

end Go.Proofs.Ytagldmdeohenjaa

/-
  Two orders held against each other: the walk of SameOrder.
-/
set_option linter.unusedSimpArgs false
set_option linter.unusedVariables false
namespace Go.Proofs.Ytagldmdeohenjaa
open Go.RowKit Go.St

theorem order_eq {k n v : Int} {rs : List Rule} {fs : List Int} {k' n' v' : Int} {rs' : List Rule} {fs' : List Int} :
    (decide ((⟨k, n, v, rs, fs⟩ : Order) = ⟨k', n', v', rs', fs'⟩)) = (k == k' && (n == n' && (v == v' && (rs == rs' && fs == fs')))) := by
  rw [Bool.eq_iff_iff]
  simp [Order.mk.injEq]

set_option maxRecDepth 100000 in
set_option maxHeartbeats 4000000 in
theorem sameOrder_c (x y : Order) (cs ds : List Value) (ok ok' : Nat → Prop) (w : World) (hx : orderS.rep ok w cs x) (hy : orderS.rep ok' w ds y) :
    Calls Try.prog 35 #[.agg cs.toArray, .agg ds.toArray] w fun e w' => e = .returned (.bool (decide (x = y))) ∧ Below w.heap.size w w' := by
  obtain ⟨ra, rc, fa, fc, rfl, _, _, _, hr, hf⟩ := hx
  obtain ⟨ra', rc', fa', fc', rfl, _, _, _, hr', hf'⟩ := hy
  obtain ⟨k, n, v, rs, fs⟩ := x
  obtain ⟨k', n', v', rs', fs'⟩ := y
  dsimp only at *
  rw [order_eq]
  by_cases h1 : k = k'
  case neg =>
    have h1' : (k == k') = false := by rw [beq_eq_false_iff_ne]; exact h1
    rw [h1', Bool.false_and]
    clear h1
    go_enter Try.func35, Try.ntmps35
    go_wp2
    go_ret; exact ⟨rfl, by (repeat' (first | with_reducible exact Below.refl _ _ | with_reducible assumption | with_reducible refine Below.drew ?_ | with_reducible refine Below_drewN ?_ _ | with_reducible refine Below.alloc ?_ ?_ _ | with_reducible refine Below.setCell ?_ ?_ _ | omega | (simp; done) | (simp; omega)))⟩
  subst h1
  by_cases h2 : n = n'
  case neg =>
    have h2' : (n == n') = false := by rw [beq_eq_false_iff_ne]; exact h2
    rw [h2', Bool.false_and, Bool.and_false]
    clear h2
    go_enter Try.func35, Try.ntmps35
    go_wp2
    go_ret; exact ⟨rfl, by (repeat' (first | with_reducible exact Below.refl _ _ | with_reducible assumption | with_reducible refine Below.drew ?_ | with_reducible refine Below_drewN ?_ _ | with_reducible refine Below.alloc ?_ ?_ _ | with_reducible refine Below.setCell ?_ ?_ _ | omega | (simp; done) | (simp; omega)))⟩
  subst h2
  by_cases h3 : v = v'
  case neg =>
    have h3' : (v == v') = false := by rw [beq_eq_false_iff_ne]; exact h3
    rw [h3', Bool.false_and, Bool.and_false, Bool.and_false]
    clear h3
    go_enter Try.func35, Try.ntmps35
    go_wp2
    go_ret; exact ⟨rfl, by (repeat' (first | with_reducible exact Below.refl _ _ | with_reducible assumption | with_reducible refine Below.drew ?_ | with_reducible refine Below_drewN ?_ _ | with_reducible refine Below.alloc ?_ ?_ _ | with_reducible refine Below.setCell ?_ ?_ _ | omega | (simp; done) | (simp; omega)))⟩
  subst h3
  simp only [beq_self_eq_true, Bool.true_and]
  go_enter Try.func35, Try.ntmps35
  go_wp2_with fail
  refine (sameRules_c rs rs' ok ok' ra ra' rc rc' _ ?_ ?_).mono ?_
  · exact hr.below (by (repeat' (first | with_reducible exact Below.refl _ _ | with_reducible assumption | with_reducible refine Below.drew ?_ | with_reducible refine Below_drewN ?_ _ | with_reducible refine Below.alloc ?_ ?_ _ | with_reducible refine Below.setCell ?_ ?_ _ | omega | (simp; done) | (simp; omega))))
  · exact hr'.below (by (repeat' (first | with_reducible exact Below.refl _ _ | with_reducible assumption | with_reducible refine Below.drew ?_ | with_reducible refine Below_drewN ?_ _ | with_reducible refine Below.alloc ?_ ?_ _ | with_reducible refine Below.setCell ?_ ?_ _ | omega | (simp; done) | (simp; omega))))
  rintro e w1 ⟨rfl, hb1⟩
  obtain ⟨q1, q2⟩ := bcell hb1
  cases hrr : (rs == rs')
  · have hB : Below w.heap.size w w1 := Below.trans (by (repeat' (first | with_reducible exact Below.refl _ _ | with_reducible assumption | with_reducible refine Below.drew ?_ | with_reducible refine Below_drewN ?_ _ | with_reducible refine Below.alloc ?_ ?_ _ | with_reducible refine Below.setCell ?_ ?_ _ | omega | (simp; done) | (simp; omega)))) (hb1.mono (by simp; omega))
    have HR := Lib.hid hrr
    clear hr hr' hf hf' hb1 hrr
    go_wp2
    go_ret; exact ⟨ret_bool (by rw [HR.out]; rfl), by (repeat' (first | with_reducible exact Below.refl _ _ | with_reducible assumption | with_reducible refine Below.drew ?_ | with_reducible refine Below_drewN ?_ _ | with_reducible refine Below.alloc ?_ ?_ _ | with_reducible refine Below.setCell ?_ ?_ _ | omega | (simp; done) | (simp; omega)))⟩
  · have HR := Lib.hid hrr
    clear hrr
    go_wp2_with fail
    refine (ints_c fs fs' ok ok' fa fa' fc fc' _ ?_ ?_).mono ?_
    · exact hf.below (Below.trans (by (repeat' (first | with_reducible exact Below.refl _ _ | with_reducible assumption | with_reducible refine Below.drew ?_ | with_reducible refine Below_drewN ?_ _ | with_reducible refine Below.alloc ?_ ?_ _ | with_reducible refine Below.setCell ?_ ?_ _ | omega | (simp; done) | (simp; omega)))) (hb1.mono (by simp; omega)))
    · exact hf'.below (Below.trans (by (repeat' (first | with_reducible exact Below.refl _ _ | with_reducible assumption | with_reducible refine Below.drew ?_ | with_reducible refine Below_drewN ?_ _ | with_reducible refine Below.alloc ?_ ?_ _ | with_reducible refine Below.setCell ?_ ?_ _ | omega | (simp; done) | (simp; omega)))) (hb1.mono (by simp; omega)))
    rintro e w2 ⟨rfl, hb2⟩
    have hB : Below w.heap.size w w2 := Below.trans (Below.trans (by (repeat' (first | with_reducible exact Below.refl _ _ | with_reducible assumption | with_reducible refine Below.drew ?_ | with_reducible refine Below_drewN ?_ _ | with_reducible refine Below.alloc ?_ ?_ _ | with_reducible refine Below.setCell ?_ ?_ _ | omega | (simp; done) | (simp; omega)))) (hb1.mono (by simp; omega))) (hb2.mono (by have := hb1.size; simp at this; omega))
    clear hr hr' hf hf' hb1 hb2
    go_wp2
    go_ret; exact ⟨ret_bool (by rw [HR.out]; simp), by (repeat' (first | with_reducible exact Below.refl _ _ | with_reducible assumption | with_reducible refine Below.drew ?_ | with_reducible refine Below_drewN ?_ _ | with_reducible refine Below.alloc ?_ ?_ _ | with_reducible refine Below.setCell ?_ ?_ _ | omega | (simp; done) | (simp; omega)))⟩

end Go.Proofs.Ytagldmdeohenjaa

/-
  The walks of slices.Index, Contains and Clone at rows of integers.
-/
set_option linter.unusedSimpArgs false
set_option linter.unusedVariables false
namespace Go.St
open Go.RowKit
theorem run_eql_nil {P : Program} (t e : TypeId) (h : P.underlying t = some (.slice e)) (w : World) (a : Option Addr) (l c : Nat) : (binOp .eql t (.slice a l c) (.slice none 0 0)).run P w = .ok (.bool a.isNone) w := by
  show ((do return .bool (← Op.equal t _ _)) : Sem Value).run P w = _
  simp [run_equal_slice_nil w t e a l c h]
def idxI (x : Int) (l : List Int) : Int := match idxIn x l with | none => -1 | some i => i
theorem idx_hit {x : Int} : ∀ {l : List Int} {j : Nat}, x ∉ l.take j → l[j]? = some x → idxIn x l = some j
  | [], j, _, h => by simp at h
  | y :: r, 0, _, h => by simp at h; simp [idxIn, h]
  | y :: r, j + 1, h0, h => by
    simp only [List.take_succ_cons, List.mem_cons, not_or] at h0
    simp only [idxIn]
    rw [if_neg h0.1, idx_hit h0.2 (by simpa using h)]
    rfl
theorem idx_end {x : Int} : ∀ {l : List Int}, x ∉ l → idxIn x l = none
  | [], _ => rfl
  | y :: r, h => by
    simp only [List.mem_cons, not_or] at h
    simp only [idxIn]
    rw [if_neg h.1, idx_end h.2]
    rfl
theorem idxI_hit {x : Int} {l : List Int} {j : Nat} (h : x ∉ l.take j) (hj : j < l.length) (he : (x == l[j]) = true) : idxI x l = j := by
  unfold idxI
  rw [idx_hit h (by rw [List.getElem?_eq_getElem hj]; simpa using (beq_iff_eq.1 he).symm)]
theorem idxI_go {x : Int} {l : List Int} {j : Nat} (h : x ∉ l.take j) (hj : j < l.length) (he : (x == l[j]) = false) : x ∉ l.take (j + 1) := by
  rw [List.take_succ_eq_append_getElem hj]
  intro hm
  rcases List.mem_append.1 hm with hm | hm
  · exact h hm
  · simp at hm; simp [hm] at he
theorem idxI_end {x : Int} {l : List Int} {j : Nat} (h : x ∉ l.take j) (hj : ¬ j < l.length) : idxI x l = -1 := by
  rw [List.take_of_length_le (by omega)] at h
  unfold idxI
  rw [idx_end h]
theorem idxI_mem {x : Int} {l : List Int} : decide (idxI x l ≥ 0) = decide (x ∈ l) := by
  unfold idxI
  cases h : idxIn x l with
  | none => simp [idxIn_none h]
  | some i => simp [List.mem_of_getElem? (idxIn_some h)]
theorem idxI_mem' {x : Int} {l : List Int} : decide (0 ≤ idxI x l) = decide (x ∈ l) := idxI_mem
end Go.St
namespace Go.Proofs.Ytagldmdeohenjaa
open Go.RowKit Go.St
theorem info_int : (Try.prog.info? 3).map (fun i => (i.zero, i.size, i.bytes)) = some (some (.int .i64 0), 1, 8) := by kernel_rfl

set_option maxRecDepth 100000 in
set_option maxHeartbeats 1000000 in
theorem indexI_c (l : List Int) (x : Int) (ok : Nat → Prop) (ax : Option Addr) (cx : Nat) (w : World) (hx : rowRep intS ok w ax cx l) :
    Calls Try.prog 27 #[.slice ax l.length cx, .int .i64 x] w fun e w' => e = .returned (.int .i64 (idxI x l)) ∧ w' = w := by
  have hlx := hx.len_le
  go_enter Try.func27, Try.ntmps27
  go_wp2
  go_loop [5, 8] (fun _ i => ∃ j : Nat, j ≤ l.length ∧ i = .int .i64 j ∧ Hid (x ∉ l.take j)) (fun _ i => l.length - (intOf i).toNat)
  case atStart => exact ⟨0, Nat.zero_le _, rfl, by show x ∉ _; simp⟩
  case round =>
    obtain ⟨j, hj, rfl, hall⟩ := hrel
    by_cases hlt : j < l.length
    · obtain ⟨b, off, rfl, _, hbl, cs, hcs, hce⟩ := hx.get (List.getElem?_eq_getElem hlt)
      obtain ⟨rfl, hi1, hi2⟩ := hcs
      have e0 := hce 0 _ rfl
      clear hce
      simp only [intS, Nat.add_zero, Nat.mul_one] at e0
      have hgo := idxI_go hall.out hlt
      have hhit := idxI_hit hall.out hlt
      generalize l[j] = y at *
      cases p1 : (x == y)
      · have HG := Lib.hid (hgo p1)
        clear hgo hhit
        go_wp2
        go_round
        case rel => exact ⟨j + 1, by omega, by go_num, HG⟩
        case measure => simp [intOf]; omega
      · have HH := Lib.hid (hhit p1)
        clear hgo hhit
        go_wp2
        go_ret; exact ⟨ret_int HH.out.symm, rfl⟩
    · have HE := Lib.hid (idxI_end hall.out hlt)
      go_wp2
      go_ret; exact ⟨ret_int HE.out.symm, rfl⟩

set_option maxRecDepth 100000 in
set_option maxHeartbeats 1000000 in
theorem containsI_c (l : List Int) (x : Int) (ok : Nat → Prop) (ax : Option Addr) (cx : Nat) (w : World) (hx : rowRep intS ok w ax cx l) :
    Calls Try.prog 50 #[.slice ax l.length cx, .int .i64 x] w fun e w' => e = .returned (.bool (decide (x ∈ l))) ∧ w' = w := by
  go_enter Try.func50, Try.ntmps50
  go_wp2_with fail
  refine (indexI_c l x ok ax cx w hx).mono ?_
  rintro e w' ⟨rfl, rfl⟩
  go_wp2
  go_ret; exact ⟨ret_bool idxI_mem', rfl⟩

set_option maxRecDepth 100000 in
set_option maxHeartbeats 1000000 in
theorem cloneI_c (l : List Int) (ok : Nat → Prop) (ax : Option Addr) (cx : Nat) (w : World) (hx : rowRep intS ok w ax cx l) (hn : ax = none → cx = 0) (hsm : l.length ≤ 1000000) :
    Calls Try.prog 39 #[.slice ax l.length cx] w fun e w' => ∃ ao cap, e = .returned (.slice ao l.length cap) ∧ rowRep intS (fun b => w.heap.size ≤ b) w' ao cap l ∧ (ao = none ↔ ax = none) ∧ Below w.heap.size w w' := by
  obtain ⟨i0, hi, hz0, hz1, hz2⟩ := info_parts info_int
  have hlx := hx.len_le
  have hnil := run_eql_nil (P := Try.prog) 26 3 Try.underlying26
  cases ax with
  | none =>
    obtain rfl : l = [] := by
      obtain ⟨_, _, h | ⟨_, _, h, _⟩⟩ := hx
      · exact h
      · cases h
    obtain rfl := hn rfl
    go_enter Try.func39, Try.ntmps39
    go_wp2
    go_ret; exact ⟨none, 0, rfl, rowRep.nil _ _ _ _, by simp, by (repeat' (first | with_reducible exact Below.refl _ _ | with_reducible assumption | with_reducible refine Below.drew ?_ | with_reducible refine Below_drewN ?_ _ | with_reducible refine Below.alloc ?_ ?_ _ | with_reducible refine Below.setCell ?_ ?_ _ | omega | (simp; done) | (simp; omega)))⟩
  | some a =>
    have hown : ownR intS 3 (fun _ => False) w.heap.size (w.alloc (.cells (([] : List Int).map (Value.int .i64)).toArray 3)) (some ⟨w.heap.size, 0, none⟩) 0 0 [] := ownR.lit rfl rfl (Nat.le_refl _) (by decide) (by simp) (fun _ h => h.elim)
    have hlm : l.length ≤ 9223372036854775807 := hlx
    go_enter Try.func39, Try.ntmps39
    go_wp2_with (at_builtin; go_must (refine wpList_appR (sh := intS) rfl _ _ 26 rfl 3 i0 (.int .i64 0) 8 Try.underlying26 hi hz0 hz1 hz2 rfl (by decide) rfl hown rfl rfl ((hx.below (by (repeat' (first | with_reducible exact Below.refl _ _ | with_reducible assumption | with_reducible refine Below.drew ?_ | with_reducible refine Below_drewN ?_ _ | with_reducible refine Below.alloc ?_ ?_ _ | with_reducible refine Below.setCell ?_ ?_ _ | omega | (simp; done) | (simp; omega))))).src) (by simp only [maxLen]; omega) (by omega) (by first | omega | (simp; done) | (simp; omega)) ?_); go_must (
      intro ao1 cap1 w2 hown1 hg1 hbk
      have hb2 := grown_below (B := w.heap.size) hg1 (fun k hk => (hown.lt k hk).1) (by first | omega | (simp; done) | (simp; omega))
      rw [List.nil_append, Nat.zero_add] at hown1))
    have hrow : rowRep intS (fun b => w.heap.size ≤ b) w2 ao1 cap1 l := hown1.row (fun _ h => h.elim) (fun k hk => (hown1.lt k hk).1)
    have hne : ao1 ≠ none := by rintro rfl; simp [blk] at hbk
    go_ret; exact ⟨ao1, cap1, rfl, hrow, by simp [hne], Below.trans (by (repeat' (first | with_reducible exact Below.refl _ _ | with_reducible assumption | with_reducible refine Below.drew ?_ | with_reducible refine Below_drewN ?_ _ | with_reducible refine Below.alloc ?_ ?_ _ | with_reducible refine Below.setCell ?_ ?_ _ | omega | (simp; done) | (simp; omega)))) hb2⟩

set_option maxRecDepth 100000 in
set_option maxHeartbeats 1000000 in
theorem indexP_c (l : List Int) (x : Int) (ok : Nat → Prop) (ax : Option Addr) (cx : Nat) (w : World) (hx : rowRep intS ok w ax cx l) :
    Calls Try.prog 65 #[.slice ax l.length cx, .int .i64 x] w fun e w' => e = .returned (.int .i64 (idxI x l)) ∧ w' = w := by
  have hlx := hx.len_le
  go_enter Try.func65, Try.ntmps65
  go_wp2
  go_loop [5, 8] (fun _ i => ∃ j : Nat, j ≤ l.length ∧ i = .int .i64 j ∧ Hid (x ∉ l.take j)) (fun _ i => l.length - (intOf i).toNat)
  case atStart => exact ⟨0, Nat.zero_le _, rfl, by show x ∉ _; simp⟩
  case round =>
    obtain ⟨j, hj, rfl, hall⟩ := hrel
    by_cases hlt : j < l.length
    · obtain ⟨b, off, rfl, _, hbl, cs, hcs, hce⟩ := hx.get (List.getElem?_eq_getElem hlt)
      obtain ⟨rfl, hi1, hi2⟩ := hcs
      have e0 := hce 0 _ rfl
      clear hce
      simp only [intS, Nat.add_zero, Nat.mul_one] at e0
      have hgo := idxI_go hall.out hlt
      have hhit := idxI_hit hall.out hlt
      generalize l[j] = y at *
      cases p1 : (x == y)
      · have HG := Lib.hid (hgo p1)
        clear hgo hhit
        go_wp2
        go_round
        case rel => exact ⟨j + 1, by omega, by go_num, HG⟩
        case measure => simp [intOf]; omega
      · have HH := Lib.hid (hhit p1)
        clear hgo hhit
        go_wp2
        go_ret; exact ⟨ret_int HH.out.symm, rfl⟩
    · have HE := Lib.hid (idxI_end hall.out hlt)
      go_wp2
      go_ret; exact ⟨ret_int HE.out.symm, rfl⟩

set_option maxRecDepth 100000 in
set_option maxHeartbeats 1000000 in
theorem containsP_c (l : List Int) (x : Int) (ok : Nat → Prop) (ax : Option Addr) (cx : Nat) (w : World) (hx : rowRep intS ok w ax cx l) :
    Calls Try.prog 62 #[.slice ax l.length cx, .int .i64 x] w fun e w' => e = .returned (.bool (decide (x ∈ l))) ∧ w' = w := by
  go_enter Try.func62, Try.ntmps62
  go_wp2_with fail
  refine (indexP_c l x ok ax cx w hx).mono ?_
  rintro e w' ⟨rfl, rfl⟩
  go_wp2
  go_ret; exact ⟨ret_bool idxI_mem', rfl⟩

set_option maxRecDepth 100000 in
set_option maxHeartbeats 1000000 in
theorem cloneP_c (l : List Int) (ok : Nat → Prop) (ax : Option Addr) (cx : Nat) (w : World) (hx : rowRep intS ok w ax cx l) (hn : ax = none → cx = 0) (hsm : l.length ≤ 1000000) :
    Calls Try.prog 52 #[.slice ax l.length cx] w fun e w' => ∃ ao cap, e = .returned (.slice ao l.length cap) ∧ rowRep intS (fun b => w.heap.size ≤ b) w' ao cap l ∧ (ao = none ↔ ax = none) ∧ Below w.heap.size w w' := by
  obtain ⟨i0, hi, hz0, hz1, hz2⟩ := info_parts info_int
  have hlx := hx.len_le
  have hnil := run_eql_nil (P := Try.prog) 92 3 Try.underlying92
  cases ax with
  | none =>
    obtain rfl : l = [] := by
      obtain ⟨_, _, h | ⟨_, _, h, _⟩⟩ := hx
      · exact h
      · cases h
    obtain rfl := hn rfl
    go_enter Try.func52, Try.ntmps52
    go_wp2
    go_ret; exact ⟨none, 0, rfl, rowRep.nil _ _ _ _, by simp, by (repeat' (first | with_reducible exact Below.refl _ _ | with_reducible assumption | with_reducible refine Below.drew ?_ | with_reducible refine Below_drewN ?_ _ | with_reducible refine Below.alloc ?_ ?_ _ | with_reducible refine Below.setCell ?_ ?_ _ | omega | (simp; done) | (simp; omega)))⟩
  | some a =>
    have hown : ownR intS 3 (fun _ => False) w.heap.size (w.alloc (.cells (([] : List Int).map (Value.int .i64)).toArray 3)) (some ⟨w.heap.size, 0, none⟩) 0 0 [] := ownR.lit rfl rfl (Nat.le_refl _) (by decide) (by simp) (fun _ h => h.elim)
    have hlm : l.length ≤ 9223372036854775807 := hlx
    go_enter Try.func52, Try.ntmps52
    go_wp2_with (at_builtin; go_must (refine wpList_appR (sh := intS) rfl _ _ 92 rfl 3 i0 (.int .i64 0) 8 Try.underlying92 hi hz0 hz1 hz2 rfl (by decide) rfl hown rfl rfl ((hx.below (by (repeat' (first | with_reducible exact Below.refl _ _ | with_reducible assumption | with_reducible refine Below.drew ?_ | with_reducible refine Below_drewN ?_ _ | with_reducible refine Below.alloc ?_ ?_ _ | with_reducible refine Below.setCell ?_ ?_ _ | omega | (simp; done) | (simp; omega))))).src) (by simp only [maxLen]; omega) (by omega) (by first | omega | (simp; done) | (simp; omega)) ?_); go_must (
      intro ao1 cap1 w2 hown1 hg1 hbk
      have hb2 := grown_below (B := w.heap.size) hg1 (fun k hk => (hown.lt k hk).1) (by first | omega | (simp; done) | (simp; omega))
      rw [List.nil_append, Nat.zero_add] at hown1))
    have hrow : rowRep intS (fun b => w.heap.size ≤ b) w2 ao1 cap1 l := hown1.row (fun _ h => h.elim) (fun k hk => (hown1.lt k hk).1)
    have hne : ao1 ≠ none := by rintro rfl; simp [blk] at hbk
    go_ret; exact ⟨ao1, cap1, rfl, hrow, by simp [hne], Below.trans (by (repeat' (first | with_reducible exact Below.refl _ _ | with_reducible assumption | with_reducible refine Below.drew ?_ | with_reducible refine Below_drewN ?_ _ | with_reducible refine Below.alloc ?_ ?_ _ | with_reducible refine Below.setCell ?_ ?_ _ | omega | (simp; done) | (simp; omega)))) hb2⟩

end Go.Proofs.Ytagldmdeohenjaa

/-
  The walk of flows.list: what is wrong with switches that a flow names.
-/
set_option linter.unusedSimpArgs false
set_option linter.unusedVariables false
namespace Go.St
theorem lst_go {n src dst c : Int} {l : List Int} {j : Nat} (hj : j < l.length) (h : c = listBad n src dst (l.take j) (l.drop j)) (h1 : ¬ (l[j] < 0 ∨ n ≤ l[j])) (h2 : ¬ (l[j] = src ∨ l[j] = dst)) (h3 : l[j] ∉ l.take j) :
    c = listBad n src dst (l.take (j + 1)) (l.drop (j + 1)) := by
  rw [h, List.drop_eq_getElem_cons hj, listBad, if_neg h1, if_neg h2, if_neg h3, List.take_succ_eq_append_getElem hj]
theorem lst_1 {n src dst c : Int} {l : List Int} {j : Nat} (hj : j < l.length) (h : c = listBad n src dst (l.take j) (l.drop j)) (h1 : l[j] < 0 ∨ n ≤ l[j]) : c = 6 := by
  rw [h, List.drop_eq_getElem_cons hj, listBad, if_pos h1]
theorem lst_2 {n src dst c : Int} {l : List Int} {j : Nat} (hj : j < l.length) (h : c = listBad n src dst (l.take j) (l.drop j)) (h1 : ¬ (l[j] < 0 ∨ n ≤ l[j])) (h2 : l[j] = src ∨ l[j] = dst) : c = 8 := by
  rw [h, List.drop_eq_getElem_cons hj, listBad, if_neg h1, if_pos h2]
theorem lst_3 {n src dst c : Int} {l : List Int} {j : Nat} (hj : j < l.length) (h : c = listBad n src dst (l.take j) (l.drop j)) (h1 : ¬ (l[j] < 0 ∨ n ≤ l[j])) (h2 : ¬ (l[j] = src ∨ l[j] = dst)) (h3 : l[j] ∈ l.take j) : c = 7 := by
  rw [h, List.drop_eq_getElem_cons hj, listBad, if_neg h1, if_neg h2, if_pos h3]
theorem lst_end {n src dst c : Int} {l : List Int} {j : Nat} (hj : ¬ j < l.length) (h : c = listBad n src dst (l.take j) (l.drop j)) : c = 0 := by
  rw [h, List.drop_of_length_le (by omega)]; rfl
end Go.St
namespace Go.Proofs.Ytagldmdeohenjaa
open Go.RowKit Go.St

set_option maxRecDepth 100000 in
set_option maxHeartbeats 4000000 in
theorem flowList_c (l : List Int) (n src dst : Int) (ok : Nat → Prop) (ax : Option Addr) (cx b o : Nat) (w : World) (hx : rowRep intS ok w ax cx l) (f0 : w.cell? ⟨b, o, none⟩ = some (.int .i64 src)) (f1 : w.cell? ⟨b, o + 1, none⟩ = some (.int .i64 dst)) :
    Calls Try.prog 47 #[.slice ax l.length cx, .pointer (some ⟨b, o, none⟩), .int .i64 n] w fun e w' => e = .returned (.int .i64 (listBad n src dst [] l)) ∧ w' = w := by
  have hlx := hx.len_le
  have hcx := hx.1
  have hst : Hid (listBad n src dst [] l = listBad n src dst (l.take 0) (l.drop 0)) := rfl
  generalize listBad n src dst [] l = c at *
  go_enter Try.func47, Try.ntmps47
  go_wp2
  go_loop [7, 8, 11] (fun _ _ i => ∃ j : Nat, j ≤ l.length ∧ i = .int .i64 j ∧ Hid (c = listBad n src dst (l.take j) (l.drop j))) (fun _ _ i => l.length - (intOf i).toNat)
  case atStart => exact ⟨0, Nat.zero_le _, rfl, hst⟩
  case round =>
    obtain ⟨j, hj, rfl, hall⟩ := hrel
    by_cases hlt : j < l.length
    · obtain ⟨g, off, rfl, _, hbl, cs, hcs, hce⟩ := hx.get (List.getElem?_eq_getElem hlt)
      obtain ⟨rfl, _⟩ := hcs
      have e0 := hce 0 _ rfl
      clear hce
      simp only [intS, Nat.add_zero, Nat.mul_one] at e0
      have b0 : (0 : Int) ≤ (j : Int) := by omega
      have b1 : (j : Int) < (l.length : Int) := by omega
      have b2 : (j : Int) ≤ (cx : Int) := by omega
      have b3 : ((j : Int)).toNat = j := by omega
      have hcon : Calls Try.prog 50 #[.slice (some ⟨g, off, none⟩) j cx, .int .i64 l[j]] w fun e w' => e = .returned (.bool (decide (l[j] ∈ l.take j))) ∧ w' = w := by
        have := containsI_c (l.take j) l[j] ok _ cx w (hx.take j)
        rwa [List.length_take, Nat.min_eq_left hj] at this
      have g0 := lst_go (c := c) hlt hall.out
      have g1 := lst_1 (c := c) hlt hall.out
      have g2 := lst_2 (c := c) hlt hall.out
      have g3 := lst_3 (c := c) hlt hall.out
      clear hall
      generalize l[j] = x at *
      by_cases p1 : x < 0
      · have HH := Lib.hid (g1 (.inl p1))
        clear g0 g1 g2 g3 hcon
        go_wp2
        go_ret; exact ⟨ret_int HH.out.symm, rfl⟩
      by_cases p2 : n ≤ x
      · have HH := Lib.hid (g1 (.inr p2))
        clear g0 g1 g2 g3 hcon
        go_wp2
        go_ret; exact ⟨ret_int HH.out.symm, rfl⟩
      have p12 : ¬ (x < 0 ∨ n ≤ x) := by omega
      cases p3 : (x == src)
      case true =>
        have HH := Lib.hid (g2 p12 (.inl (beq_iff_eq.1 p3)))
        clear g0 g1 g2 g3 hcon p12
        go_wp2
        go_ret; exact ⟨ret_int HH.out.symm, rfl⟩
      cases p4 : (x == dst)
      case true =>
        have HH := Lib.hid (g2 p12 (.inr (beq_iff_eq.1 p4)))
        clear g0 g1 g2 g3 hcon p12
        go_wp2
        go_ret; exact ⟨ret_int HH.out.symm, rfl⟩
      have p34 : ¬ (x = src ∨ x = dst) := by
        rintro (h | h)
        · exact (beq_eq_false_iff_ne.1 p3) h
        · exact (beq_eq_false_iff_ne.1 p4) h
      by_cases p5 : x ∈ l.take j
      · have HH := Lib.hid (g3 p12 p34 p5)
        have hd : decide (x ∈ l.take j) = true := decide_eq_true p5
        rw [hd] at hcon
        clear g0 g1 g2 g3 p12 p34 p5 hd
        have HC := Lib.hid hcon
        clear hcon
        go_wp2_with fail
        refine HC.out.mono ?_
        rintro e w1 ⟨rfl, rfl⟩
        go_wp2
        go_ret; exact ⟨ret_int HH.out.symm, rfl⟩
      · have HH := Lib.hid (g0 p12 p34 p5)
        have hd : decide (x ∈ l.take j) = false := decide_eq_false p5
        rw [hd] at hcon
        clear g0 g1 g2 g3 p12 p34 p5 hd
        have HC := Lib.hid hcon
        clear hcon
        go_wp2_with fail
        refine HC.out.mono ?_
        rintro e w1 ⟨rfl, rfl⟩
        go_wp2
        go_round
        case rel => exact ⟨j + 1, by omega, by go_num, HH⟩
        case measure => simp [intOf]; omega
    · have HE := Lib.hid (lst_end hlt hall.out)
      have b1 : ¬ (j : Int) < (l.length : Int) := by omega
      clear hall
      go_wp2
      go_ret; exact ⟨ret_int HE.out.symm, rfl⟩

end Go.Proofs.Ytagldmdeohenjaa

/-
  The walks of flows.Wrong, and of the closure that it hands to slices.ContainsFunc.
-/
set_option linter.unusedSimpArgs false
set_option linter.unusedVariables false
namespace Go.St
open Go.RowKit
theorem any_go {l no : List Int} {j : Nat} (hj : j < l.length) (h : ∀ x ∈ l.take j, x ∉ no) (h1 : l[j] ∉ no) : ∀ x ∈ l.take (j + 1), x ∉ no := by
  intro x hx
  rw [List.take_succ_eq_append_getElem hj] at hx
  rcases List.mem_append.1 hx with hx | hx
  · exact h x hx
  · simp at hx; exact hx ▸ h1
theorem any_hit {l no : List Int} {j : Nat} (hj : j < l.length) (h1 : l[j] ∈ no) : l.any (fun s => decide (s ∈ no)) = true := List.any_eq_true.2 ⟨l[j], List.getElem_mem hj, by simpa using h1⟩
theorem any_end {l no : List Int} {j : Nat} (hj : ¬ j < l.length) (h : ∀ x ∈ l.take j, x ∉ no) : l.any (fun s => decide (s ∈ no)) = false := by
  rw [List.take_of_length_le (by omega)] at h
  rw [List.any_eq_false]
  intro x hx; simpa using h x hx
theorem quiet_of_same2 {P : Program} {f : FuncId} {args : Array Value} {w : World} {k n : Nat} {v : Value}
    (h : Calls P f args (w.drewN (k + n)) fun e w' => e = .returned v ∧ w' = w.drewN (k + n)) : Calls P f args (w.drewN (k + n)) fun e w'' => e = .returned v ∧ ∃ m, w'' = w.drewN (k + m) :=
  h.mono fun _ _ ⟨he, hm⟩ => ⟨he, n, hm⟩
theorem fls_go {n : Int} {l : List Flow} {c : Int × Int} {j : Nat} (hj : j < l.length) (h : c = flowsBad n j (l.drop j)) (h1 : flowBad n l[j] = 0) : c = flowsBad n ((j + 1 : Nat) : Int) (l.drop (j + 1)) := by
  rw [h, List.drop_eq_getElem_cons hj, flowsBad, if_pos h1]; rfl
theorem fls_hit {n : Int} {l : List Flow} {c : Int × Int} {j : Nat} (hj : j < l.length) (h : c = flowsBad n j (l.drop j)) {e : Int} (h1 : flowBad n l[j] = e) (he : e ≠ 0) : c = (e, (j : Int)) := by
  rw [h, List.drop_eq_getElem_cons hj, flowsBad, h1, if_neg he]
theorem fls_end {n : Int} {l : List Flow} {c : Int × Int} {j : Nat} (hj : ¬ j < l.length) (h : c = flowsBad n j (l.drop j)) : c = (0, 0) := by
  rw [h, List.drop_of_length_le (by omega)]; rfl
end Go.St
namespace Go.Proofs.Ytagldmdeohenjaa
open Go.RowKit Go.St

set_option maxRecDepth 100000 in
set_option maxHeartbeats 2000000 in
theorem inNo_c (x : Int) (no : List Int) (ok : Nat → Prop) (na : Option Addr) (nc p b o : Nat) (w : World) (hp : w.cell? ⟨p, 0, none⟩ = some (.pointer (some ⟨b, o, none⟩))) (hf : w.cell? ⟨b, o + 3, none⟩ = some (.slice na no.length nc)) (hn : rowRep intS ok w na nc no) :
    Calls Try.prog 49 #[.int .i64 x, .pointer (some ⟨p, 0, none⟩)] w fun e w' => e = .returned (.bool (decide (x ∈ no))) ∧ w' = w := by
  go_enter Try.func49, Try.ntmps49
  go_wp2_with fail
  refine (containsI_c no x ok na nc w hn).mono ?_
  rintro e w' ⟨rfl, rfl⟩
  go_wp2
  go_ret; exact ⟨rfl, rfl⟩

set_option maxRecDepth 100000 in
set_option maxHeartbeats 2000000 in
theorem indexNo_c (l no : List Int) (ok ok' : Nat → Prop) (ax na : Option Addr) (cx nc p b o : Nat) (w : World) (hx : rowRep intS ok w ax cx l) (hp : w.cell? ⟨p, 0, none⟩ = some (.pointer (some ⟨b, o, none⟩))) (hf : w.cell? ⟨b, o + 3, none⟩ = some (.slice na no.length nc)) (hn : rowRep intS ok' w na nc no) :
    Calls Try.prog 60 #[.slice ax l.length cx, .func (.func 49) #[] #[.pointer (some ⟨p, 0, none⟩)]] w fun e w' => ∃ k : Int, e = .returned (.int .i64 k) ∧ decide (0 ≤ k) = l.any (fun s => decide (s ∈ no)) ∧ w' = w := by
  have hlx := hx.len_le
  go_enter Try.func60, Try.ntmps60
  go_wp2
  go_loop [5, 8] (fun _ i => ∃ j : Nat, j ≤ l.length ∧ i = .int .i64 j ∧ Hid (∀ x ∈ l.take j, x ∉ no)) (fun _ i => l.length - (intOf i).toNat)
  case atStart => exact ⟨0, Nat.zero_le _, rfl, by show ∀ x ∈ _, _; simp⟩
  case round =>
    obtain ⟨j, hj, rfl, hall⟩ := hrel
    by_cases hlt : j < l.length
    · obtain ⟨g, off, rfl, _, hbl, cs, hcs, hce⟩ := hx.get (List.getElem?_eq_getElem hlt)
      obtain ⟨rfl, _⟩ := hcs
      have e0 := hce 0 _ rfl
      clear hce
      simp only [intS, Nat.add_zero, Nat.mul_one] at e0
      have b0 : (0 : Int) ≤ (j : Int) := by omega
      have b1 : (j : Int) < (l.length : Int) := by omega
      have g1 := any_go hlt hall.out
      have g2 := any_hit (no := no) hlt
      clear hall
      generalize l[j] = x at *
      by_cases p5 : x ∈ no
      · have HH := Lib.hid (g2 p5)
        have hd : decide (x ∈ no) = true := decide_eq_true p5
        have HC := Lib.hid (inNo_c x no ok' na nc p b o w hp hf hn)
        rw [hd] at HC
        clear g1 g2 p5 hd
        go_wp2_with fail
        refine HC.out.mono ?_
        rintro e w1 ⟨rfl, rfl⟩
        go_wp2
        go_ret; exact ⟨j, rfl, by rw [HH.out]; simp, rfl⟩
      · have HH := Lib.hid (g1 p5)
        have hd : decide (x ∈ no) = false := decide_eq_false p5
        have HC := Lib.hid (inNo_c x no ok' na nc p b o w hp hf hn)
        rw [hd] at HC
        clear g1 g2 p5 hd
        go_wp2_with fail
        refine HC.out.mono ?_
        rintro e w1 ⟨rfl, rfl⟩
        go_wp2
        go_round
        case rel => exact ⟨j + 1, by omega, by go_num, HH⟩
        case measure => simp [intOf]; omega
    · have HE := Lib.hid (any_end hlt hall.out)
      have b1 : ¬ (j : Int) < (l.length : Int) := by omega
      clear hall
      go_wp2
      go_ret; exact ⟨-1, rfl, by rw [HE.out]; rfl, rfl⟩

set_option maxRecDepth 100000 in
set_option maxHeartbeats 2000000 in
theorem containsNo_c (l no : List Int) (ok ok' : Nat → Prop) (ax na : Option Addr) (cx nc p b o : Nat) (w : World) (hx : rowRep intS ok w ax cx l) (hp : w.cell? ⟨p, 0, none⟩ = some (.pointer (some ⟨b, o, none⟩))) (hf : w.cell? ⟨b, o + 3, none⟩ = some (.slice na no.length nc)) (hn : rowRep intS ok' w na nc no) :
    Calls Try.prog 48 #[.slice ax l.length cx, .func (.func 49) #[] #[.pointer (some ⟨p, 0, none⟩)]] w fun e w' => e = .returned (.bool (l.any (fun s => decide (s ∈ no)))) ∧ w' = w := by
  go_enter Try.func48, Try.ntmps48
  go_wp2_with fail
  refine (indexNo_c l no ok ok' ax na cx nc p b o w hx hp hf hn).mono ?_
  rintro e w' ⟨k, rfl, hk, rfl⟩
  have HK := Lib.hid hk
  clear hk
  go_wp2
  go_ret; exact ⟨ret_bool HK.out, rfl⟩

end Go.Proofs.Ytagldmdeohenjaa

/-
  The walk of package topo's Cost.
-/
set_option linter.unusedSimpArgs false
set_option linter.unusedVariables false
namespace Go.St
theorem cost_go {ls : List Link} {a b c : Int} {j : Nat} (hj : j < ls.length) (h : c = costIn a b (ls.drop j)) (hl : linkIs a b ls[j] = false) : c = costIn a b (ls.drop (j + 1)) := by
  rw [h, List.drop_eq_getElem_cons hj]; simp [costIn, hl]
theorem cost_hit {ls : List Link} {a b c : Int} {j : Nat} (hj : j < ls.length) (h : c = costIn a b (ls.drop j)) (hl : linkIs a b ls[j] = true) : c = ls[j].cost := by
  rw [h, List.drop_eq_getElem_cons hj]; simp [costIn, hl]
theorem cost_end {ls : List Link} {a b c : Int} {j : Nat} (hj : ¬ j < ls.length) (h : c = costIn a b (ls.drop j)) : c = 0 := by
  rw [h, List.drop_of_length_le (by omega)]; rfl
end Go.St
namespace Go.Proofs.Ytagldmdeohenjaa
open Go.RowKit Go.St

set_option maxRecDepth 100000 in
set_option maxHeartbeats 4000000 in
theorem cost_c (t : Topo) (cs : List Value) (ok : Nat → Prop) (a b : Int) (w : World) (h : topoS.rep ok w cs t) :
    Calls Try.prog 61 #[.agg cs.toArray, .int .i64 a, .int .i64 b] w fun e w' => e = .returned (.int .i64 (costOf t a b)) ∧ Below w.heap.size w w' := by
  obtain ⟨la, lc, rfl, hn, hr⟩ := h
  obtain ⟨n, ls⟩ := t
  dsimp only at *
  have hlx := hr.len_le
  have hst : Hid (costOf ⟨n, ls⟩ a b = costIn a b (ls.drop 0)) := rfl
  generalize costOf ⟨n, ls⟩ a b = c at *
  go_enter Try.func61, Try.ntmps61
  go_wp2
  go_loopw [8, 12] (fun _ i wr => ∃ j : Nat, j ≤ ls.length ∧ i = .int .i64 j ∧ Hid (c = costIn a b (ls.drop j)) ∧ Below w.heap.size w wr) (fun _ i _ => ls.length - (intOf i).toNat)
  case atStart => exact ⟨0, Nat.zero_le _, rfl, hst, by (repeat' (first | with_reducible exact Below.refl _ _ | with_reducible assumption | with_reducible refine Below.drew ?_ | with_reducible refine Below_drewN ?_ _ | with_reducible refine Below.alloc ?_ ?_ _ | with_reducible refine Below.setCell ?_ ?_ _ | omega | (simp; done) | (simp; omega)))⟩
  case round =>
    obtain ⟨j, hj, rfl, hall, hb⟩ := hrel
    have hsz := hb.size
    by_cases hlt : j < ls.length
    · obtain ⟨g, off, rfl, _, hbl, cs, hcs, hce⟩ := hr.get (List.getElem?_eq_getElem hlt)
      obtain ⟨rfl, _⟩ := hcs
      have e0 := cell_at hb hbl (hce 0 _ rfl)
      have e1 := cell_at hb hbl (hce 1 _ rfl)
      have e2 := cell_at hb hbl (hce 2 _ rfl)
      clear hce
      simp only [linkS, Nat.add_zero] at e0 e1 e2
      have b0 : (0 : Int) ≤ (j : Int) := by omega
      have b1 : (j : Int) < (ls.length : Int) := by omega
      have hgo := cost_go (c := c) hlt hall.out
      have hhit := cost_hit (c := c) hlt hall.out
      generalize hx : ls[j] = x at *
      obtain ⟨xa, xb, xc⟩ := x
      simp only [linkIs] at hgo hhit
      dsimp only at *
      clear hx hall
      cases p1 : (xa == a) <;> cases p2 : (xb == b) <;> cases p3 : (xa == b) <;> cases p4 : (xb == a) <;> (first | (have HG := Lib.hid (hgo (by simp only [p1, p2, p3, p4]; rfl))) | (have HH := Lib.hid (hhit (by simp only [p1, p2, p3, p4]; rfl)))) <;> clear hgo hhit <;> go_wp2
      all_goals first
        | (case roundEnd =>
            go_roundw
            case rel => exact ⟨j + 1, by omega, by go_num, HG, by (repeat' (first | with_reducible exact Below.refl _ _ | with_reducible assumption | with_reducible refine Below.drew ?_ | with_reducible refine Below_drewN ?_ _ | with_reducible refine Below.alloc ?_ ?_ _ | with_reducible refine Below.setCell ?_ ?_ _ | omega | (simp; done) | (simp; omega)))⟩
            case measure => simp [intOf]; omega)
        | (go_ret; exact ⟨ret_int HH.out.symm, by (repeat' (first | with_reducible exact Below.refl _ _ | with_reducible assumption | with_reducible refine Below.drew ?_ | with_reducible refine Below_drewN ?_ _ | with_reducible refine Below.alloc ?_ ?_ _ | with_reducible refine Below.setCell ?_ ?_ _ | omega | (simp; done) | (simp; omega)))⟩)
    · have HE := Lib.hid (cost_end hlt hall.out)
      have b1 : ¬ (j : Int) < (ls.length : Int) := by omega
      clear hall
      go_wp2
      go_ret; exact ⟨ret_int HE.out.symm, by (repeat' (first | with_reducible exact Below.refl _ _ | with_reducible assumption | with_reducible refine Below.drew ?_ | with_reducible refine Below_drewN ?_ _ | with_reducible refine Below.alloc ?_ ?_ _ | with_reducible refine Below.setCell ?_ ?_ _ | omega | (simp; done) | (simp; omega)))⟩

end Go.Proofs.Ytagldmdeohenjaa

/-
  The walk of package topo's Length.
-/
set_option linter.unusedSimpArgs false
set_option linter.unusedVariables false
namespace Go.St
open Go.RowKit
theorem len_bad {t : Topo} {p : List Int} {acc : Int} {c : Int × Bool} {j : Nat} (hj : j < p.length) (h : c = lengthFrom t (p.take j) acc (p.drop j)) (h1 : p[j] < 0 ∨ t.n ≤ p[j] ∨ p[j] ∈ p.take j) : c = (0, false) := by
  rw [h, List.drop_eq_getElem_cons hj, lengthFrom, if_pos h1]
theorem take_last {p : List Int} {j : Nat} (h0 : 0 < j) (hj : j < p.length) : (p.take j).getLast? = some (p[j - 1]'(by omega)) := by
  rw [List.getLast?_take, if_neg (by omega), List.getElem?_eq_getElem (by omega)]; rfl
theorem len_first {t : Topo} {p : List Int} {acc : Int} {c : Int × Bool} (hj : 0 < p.length) (h : c = lengthFrom t (p.take 0) acc (p.drop 0)) (h1 : ¬ (p[0] < 0 ∨ t.n ≤ p[0] ∨ p[0] ∈ p.take 0)) : c = lengthFrom t (p.take 1) acc (p.drop 1) := by
  rw [h, List.drop_eq_getElem_cons hj, lengthFrom, if_neg h1]
  cases p with
  | nil => simp at hj
  | cons a r => rfl
theorem len_nolink {t : Topo} {p : List Int} {acc : Int} {c : Int × Bool} {j : Nat} (h0 : 0 < j) (hj : j < p.length) (h : c = lengthFrom t (p.take j) acc (p.drop j)) (h1 : ¬ (p[j] < 0 ∨ t.n ≤ p[j] ∨ p[j] ∈ p.take j)) (h2 : costOf t (p[j - 1]'(by omega)) p[j] = 0) : c = (0, false) := by
  rw [h, List.drop_eq_getElem_cons hj, lengthFrom, if_neg h1, take_last h0 hj]
  dsimp only
  rw [if_pos h2]
theorem len_go {t : Topo} {p : List Int} {acc : Int} {c : Int × Bool} {j : Nat} (h0 : 0 < j) (hj : j < p.length) (h : c = lengthFrom t (p.take j) acc (p.drop j)) (h1 : ¬ (p[j] < 0 ∨ t.n ≤ p[j] ∨ p[j] ∈ p.take j)) (h2 : ¬ costOf t (p[j - 1]'(by omega)) p[j] = 0) :
    c = lengthFrom t (p.take (j + 1)) (IntKind.i64.wrap (acc + costOf t (p[j - 1]'(by omega)) p[j])) (p.drop (j + 1)) := by
  rw [h, List.drop_eq_getElem_cons hj, lengthFrom, if_neg h1, take_last h0 hj]
  dsimp only
  rw [if_neg h2, List.take_succ_eq_append_getElem hj]
theorem len_end {t : Topo} {p : List Int} {acc : Int} {c : Int × Bool} {j : Nat} (hj : ¬ j < p.length) (h : c = lengthFrom t (p.take j) acc (p.drop j)) : c = (acc, decide (0 < p.length)) := by
  rw [h, List.drop_of_length_le (by omega), List.take_of_length_le (by omega)]
  cases p <;> simp [lengthFrom]

def SL (tb pb o : Nat) (n : Int) (la : Option Addr) (ll lc : Nat) (q : Int) (w : World) : Prop :=
  w.cell? ⟨tb, 0, none⟩ = some (.int .i64 n) ∧ w.cell? ⟨tb, 1, none⟩ = some (.slice la ll lc) ∧ w.cell? ⟨pb, o, none⟩ = some (.int .i64 q)
theorem SL.keep {B tb pb o : Nat} {n : Int} {la : Option Addr} {ll lc : Nat} {q : Int} {w w' : World} (h : SL tb pb o n la ll lc q w) (hb : Below B w w') (h1 : tb < B) (h2 : pb < B) : SL tb pb o n la ll lc q w' :=
  ⟨cell_at hb h1 h.1, cell_at hb h1 h.2.1, cell_at hb h2 h.2.2⟩
end Go.St
namespace Go.Proofs.Ytagldmdeohenjaa
open Go.RowKit Go.St
end Go.Proofs.Ytagldmdeohenjaa
