/-
  The walk of the document's Reaches.
-/
import Derived.Test.YtflhmpmdpdekeaaRefW
import Derived.Test.YtflhmpmdpdekeaaRefRS
import Derived.Test.YtflhmpmdpdekeaaReachW
import Derived.Test.YtflhmpmdpdekeaaTo
import Derived.Laws.OwnMore
import Derived.WalkKit
import Derived.WalkSpells
import Derived.WalkLawsBesides
import Derived.Lib.Hide
import Derived.Deep.LoopGhost
import Derived.Deep.QuietTactic
import Derived.BigQuiet
import Derived.Deep.RegionWith
import Derived.Handy
set_option linter.unusedSimpArgs false
set_option linter.unusedVariables false
namespace Go.St
open Go.RowKit
def bcells (n : Nat) (p : Nat → Bool) : Array Value := ((List.range n).map (fun i => Value.bool (p i))).toArray
theorem bcells.start (n : Nat) : madeCells #[.bool false] n = bcells n (fun _ => false) := by
  apply Array.toList_inj.1
  rw [toList_madeCells_one]
  simp only [bcells]
  apply List.ext_getElem
  · simp
  · intro i h1 h2; simp
theorem bcells.get {n i : Nat} {p : Nat → Bool} (h : i < n) : (bcells n p)[i]? = some (.bool (p i)) := by
  simp [bcells, h]
theorem bcells.set {n a : Nat} {p : Nat → Bool} (h : a < n) : (bcells n p).setIfInBounds a (.bool true) = bcells n (fun i => p i || i == a) := by
  apply Array.ext_getElem?
  intro i
  rw [Array.getElem?_setIfInBounds]
  by_cases hi : i < n
  · rw [bcells.get hi, bcells.get hi]
    by_cases ha : a = i
    · subst ha; simp [bcells, h]
    · rw [if_neg ha]; simp [Ne.symm ha]
  · have h1 : (bcells n p)[i]? = none := by simp [bcells]; omega
    have h2 : (bcells n fun i => p i || i == a)[i]? = none := by simp [bcells]; omega
    rw [h1, h2]
    split
    · omega
    · rfl
theorem bcells.comm {n a b : Nat} {p : Nat → Bool} : bcells n (fun i => (p i || i == b) || i == a) = bcells n (fun i => (p i || i == a) || i == b) := by
  congr 1; funext i; rw [Bool.or_assoc, Bool.or_assoc, Bool.or_comm (i == b)]
def SK2 (lb : Nat) (xa xb : Int) (w : World) : Prop := w.cell? ⟨lb, 0, none⟩ = some (.int .i64 xa) ∧ w.cell? ⟨lb, 1, none⟩ = some (.int .i64 xb)
theorem SK2.of {w : World} {lb : Nat} {xa xb xc : Int} {e : TypeId} (h : blockIs w lb e #[.int .i64 xa, .int .i64 xb, .int .i64 xc]) : SK2 lb xa xb w := ⟨h.cells.1 0, h.cells.1 1⟩
theorem rounds_step {ls : List Link} {k : Nat} {p c : Nat → Bool} (h : roundsR ls (k + 1) p = c) : roundsR ls k ((ls.drop 0).foldl relax p) = c := h
theorem fold_step {ls : List Link} {k j : Nat} {p c : Nat → Bool} {l : Link} (h : roundsR ls k ((ls.drop j).foldl relax p) = c) (hl : ls[j]? = some l) : roundsR ls k ((ls.drop (j + 1)).foldl relax (relax p l)) = c := by
  obtain ⟨hj, rfl⟩ := List.getElem?_eq_some_iff.1 hl
  rw [List.drop_eq_getElem_cons hj, List.foldl_cons] at h
  exact h
theorem fold_end {ls : List Link} {k j : Nat} {p c : Nat → Bool} (h : roundsR ls k ((ls.drop j).foldl relax p) = c) (hj : ls.length ≤ j) : roundsR ls k p = c := by
  rw [List.drop_of_length_le hj] at h
  exact h
end Go.St
namespace Go.Proofs.Ytflhmpmdpdekeaa
open Go.RowKit Go.St
theorem bool_info : (Try.prog.info? 4).map (fun i => (i.zero, i.size, i.bytes)) = some (some (.bool false), 1, 1) := by kernel_rfl

set_option maxRecDepth 100000 in
set_option maxHeartbeats 16000000 in
theorem refReaches_c (t : Topo) (cs : List Value) (ok : Nat → Prop) (s : Int) (hs : I64 s) (w : World) (h : topoS.rep ok w cs t) :
    Calls Try.prog 25 #[.agg cs.toArray, .int .i64 s] w fun e w' => ∃ ao cap, e = .returned (.slice ao (reaches t s).length cap) ∧ rowRep intS (fun _ => True) w' ao cap (reaches t s) ∧ Below w.heap.size w w' := by
  have hT := h
  obtain ⟨la, lc, rfl, hn, hr⟩ := h
  have hfd := fault_err0
  obtain ⟨i0, hi, hz0, hz1, hz2⟩ := info_parts int_info
  obtain ⟨j0, gi, gz0, gz1, gz2⟩ := info_parts bool_info
  generalize hsp0 : reaches t s = R
  have hsp := Lib.hid hsp0
  clear hsp0
  go_enter Try.func25, Try.ntmps25
  go_wp2_with fail
  refine (refWrong_c t _ ok _ (topoS.below hT (by (repeat' (first | with_reducible exact Below.refl _ _ | with_reducible assumption | with_reducible refine Below.drew ?_ | with_reducible refine Below_drewN ?_ _ | with_reducible refine Below.alloc ?_ ?_ _ | with_reducible refine Below.setCell ?_ ?_ _ | omega | (simp; done) | (simp; omega)))))).mono ?_
  rintro e w1 ⟨rfl, hb1⟩
  have hB1 : Below w.heap.size w w1 := Below.trans (by (repeat' (first | with_reducible exact Below.refl _ _ | with_reducible assumption | with_reducible refine Below.drew ?_ | with_reducible refine Below_drewN ?_ _ | with_reducible refine Below.alloc ?_ ?_ _ | with_reducible refine Below.setCell ?_ ?_ _ | omega | (simp; done) | (simp; omega)))) (hb1.mono (by first | omega | (simp; done) | (simp; omega)))
  have hT1 : blockIs w1 w.heap.size 24 #[.int .i64 t.n, .slice la t.links.length lc] := (blockIs.new rfl).under hb1
  obtain ⟨t1, t2⟩ := hT1.cells
  have hw1 := hT1.lt
  clear hb1
  by_cases h1 : (topoWrong t).1 = 0
  case neg =>
    have HN := Lib.hid (hsp.out.symm.trans (reaches_nil (.inl h1)))
    clear hsp
    have h1' : ((topoWrong t).1 != 0) = true := by rw [bne_iff_ne]; exact h1
    clear h1
    generalize topoWrong t = we at *
    go_wp2
    go_ret; rw [HN.out]; exact ⟨none, 0, rfl, rowRep.nil _ _ _ _, by (repeat' (first | with_reducible exact Below.refl _ _ | with_reducible assumption | with_reducible refine Below.drew ?_ | with_reducible refine Below_drewN ?_ _ | with_reducible refine Below.alloc ?_ ?_ _ | with_reducible refine Below.setCell ?_ ?_ _ | omega | (simp; done) | (simp; omega)))⟩
  by_cases h2 : s < 0
  · have HN := Lib.hid (hsp.out.symm.trans (reaches_nil (.inr (.inl h2))))
    clear hsp
    rw [h1]
    clear h1
    generalize topoWrong t = we at *
    go_wp2
    go_ret; rw [HN.out]; exact ⟨none, 0, rfl, rowRep.nil _ _ _ _, by (repeat' (first | with_reducible exact Below.refl _ _ | with_reducible assumption | with_reducible refine Below.drew ?_ | with_reducible refine Below_drewN ?_ _ | with_reducible refine Below.alloc ?_ ?_ _ | with_reducible refine Below.setCell ?_ ?_ _ | omega | (simp; done) | (simp; omega)))⟩
  by_cases h3 : t.n ≤ s
  · have HN := Lib.hid (hsp.out.symm.trans (reaches_nil (.inr (.inr h3))))
    clear hsp
    rw [h1]
    clear h1
    generalize topoWrong t = we at *
    go_wp2
    go_ret; rw [HN.out]; exact ⟨none, 0, rfl, rowRep.nil _ _ _ _, by (repeat' (first | with_reducible exact Below.refl _ _ | with_reducible assumption | with_reducible refine Below.drew ?_ | with_reducible refine Below_drewN ?_ _ | with_reducible refine Below.alloc ?_ ?_ _ | with_reducible refine Below.setCell ?_ ?_ _ | omega | (simp; done) | (simp; omega)))⟩
  obtain ⟨s0, rfl⟩ := Int.eq_ofNat_of_zero_le (Int.not_lt.1 h2)
  have hRR := Lib.hid ((ref_reaches h1 (by omega) (by omega)).trans hsp.out)
  obtain ⟨⟨hn1, hn8, hl28⟩, hok⟩ := topo_right h1
  have HOK := Lib.hid hok
  rw [h1]
  clear hsp h1 hok
  generalize topoWrong t = we at *
  obtain ⟨N, hN⟩ := Int.eq_ofNat_of_zero_le (show 0 ≤ t.n by omega)
  have hNt : t.n.toNat = N := by omega
  have hst0 : Hid (roundsR t.links N (isS (s0 : Int)) = roundsR t.links N (isS (s0 : Int))) := rfl
  rw [hNt] at hRR
  generalize hc : roundsR t.links N (isS (s0 : Int)) = c at hRR
  have hst := Lib.hid hc
  clear hc hst0
  have hrun := fun w' => run_make (P := Try.prog) w' 80 4 j0 (.bool false) Try.underlying80 gi gz0 .i64 .i64 t.n t.n (by omega) (Int.le_refl _) (by rw [gz2]; omega) (by omega)
  rw [gz1, Nat.mul_one, hNt] at hrun
  have hmk : ∀ w', (Instr.makeSlice 80 (.int .i64 t.n) (.int .i64 t.n)).run Try.prog w' = .ok (.slice (some ⟨w'.heap.size, 0, none⟩) N N) (w'.alloc (.cells (bcells N (fun _ => false)) 4)) := fun w' => by rw [← bcells.start]; exact hrun w'
  clear hrun
  have hle1 : (N : Int) ≤ t.n := by omega
  have hle2 : t.n ≤ (N : Int) := by omega
  have hsN : s0 < N := by omega
  clear hN hNt
  have c1 : (s0 : Int) < (N : Int) := by omega
  have hb0 : blockIs (w1.alloc (.cells (bcells N (fun _ => false)) 4)) w1.heap.size 4 (bcells N (fun _ => false)) := blockIs.new rfl
  have hq1 := (hb0.cells.1 s0).trans (bcells.get hsN)
  have hq2 := hb0.cells.2
  have hq0 : (bcells N (fun _ => false))[s0]? = some (.bool false) := bcells.get hsN
  have hX : blockIs (w1.alloc (.cells ((bcells N (fun _ => false)).setIfInBounds s0 (.bool true)) 4)) w1.heap.size 4 ((bcells N (fun _ => false)).setIfInBounds s0 (.bool true)) := blockIs.new rfl
  have hb1 : blockIs (w1.alloc (.cells ((bcells N (fun _ => false)).setIfInBounds s0 (.bool true)) 4)) w1.heap.size 4 (bcells N (isS (s0 : Int))) := by
    have e : (bcells N (fun _ => false)).setIfInBounds s0 (.bool true) = bcells N (isS (s0 : Int)) := by
      rw [bcells.set hsN]
      congr 1
    unfold blockIs at hX ⊢
    rw [hX, e]
  have hT2 : blockIs (w1.alloc (.cells ((bcells N (fun _ => false)).setIfInBounds s0 (.bool true)) 4)) w.heap.size 24 #[.int .i64 t.n, .slice la t.links.length lc] := hT1.alloc _
  have hB2 : Below w.heap.size w (w1.alloc (.cells ((bcells N (fun _ => false)).setIfInBounds s0 (.bool true)) 4)) := by (repeat' (first | with_reducible exact Below.refl _ _ | with_reducible assumption | with_reducible refine Below.drew ?_ | with_reducible refine Below_drewN ?_ _ | with_reducible refine Below.alloc ?_ ?_ _ | with_reducible refine Below.setCell ?_ ?_ _ | omega | (simp; done) | (simp; omega)))
  clear hX
  go_wp2
  clear hmk hq0 hq1 hq2 hb0 t1 t2 c1
  generalize w1.alloc (.cells ((bcells N (fun _ => false)).setIfInBounds s0 (.bool true)) 4) = w2 at *
  go_loopw [7, 33] (fun _ idx wr => ∃ (k : Nat) (p : Nat → Bool), idx = .int .i64 k ∧ k ≤ N ∧ Hid (roundsR t.links (N - k) p = c) ∧ blockIs wr w1.heap.size 4 (bcells N p) ∧ Below w.heap.size w wr ∧ blockIs wr w.heap.size 24 #[.int .i64 t.n, .slice la t.links.length lc]) (fun _ idx _ => N - (intOf idx).toNat)
  case atStart => exact ⟨0, _, rfl, Nat.zero_le _, hst, hb1, hB2, hT2⟩
  case round =>
    obtain ⟨k, p, rfl, hk, hall, hblk, hb, hB⟩ := hrel
    clear hb1 hB2 hT2
    obtain ⟨t1, t2⟩ := hB.cells
    have hzk := hblk.lt
    by_cases hkN : k < N
    case neg =>
      obtain rfl : k = N := by omega
      obtain rfl : p = c := by have := hall.out; rw [Nat.sub_self] at this; exact this
      have d1 : ¬ (k : Int) < (k : Int) := by omega
      rename World => wo
      go_wp2
      go_loopw [8, 9, 10, 66] (fun out _ _ idx wr => ∃ (m : Nat) (ao : Option Addr) (cap : Nat), out = .slice ao (pickI p m).length cap ∧ idx = .int .i64 m ∧ m ≤ k ∧ ownR intS 3 (fun _ => False) wo.heap.size wr ao (pickI p m).length cap (pickI p m) ∧ Below w.heap.size w wr ∧ wo.heap.size ≤ wr.heap.size ∧ blockIs wr w1.heap.size 4 (bcells k p)) (fun _ _ _ idx _ => k - (intOf idx).toNat)
      case atStart => exact ⟨0, none, 0, rfl, rfl, Nat.zero_le _, ownR.nil' _ _ _ _, by (repeat' (first | with_reducible exact Below.refl _ _ | with_reducible assumption | with_reducible refine Below.drew ?_ | with_reducible refine Below_drewN ?_ _ | with_reducible refine Below.alloc ?_ ?_ _ | with_reducible refine Below.setCell ?_ ?_ _ | omega | (simp; done) | (simp; omega))), by first | omega | (simp; done) | (simp; omega), hblk⟩
      case round =>
        obtain ⟨m, ao, cap, rfl, rfl, hm, hown, hb2, hz2', hblk2⟩ := hrel
        by_cases hmk : m < k
        case neg =>
          obtain rfl : m = k := by omega
          have d2 : ¬ (m : Int) < (m : Int) := by omega
          go_wp2
          go_ret
          rw [hRR.out] at hown ⊢
          exact ⟨ao, cap, rfl, hown.row (fun _ h => h.elim) (fun _ _ => trivial), by (repeat' (first | with_reducible exact Below.refl _ _ | with_reducible assumption | with_reducible refine Below.drew ?_ | with_reducible refine Below_drewN ?_ _ | with_reducible refine Below.alloc ?_ ?_ _ | with_reducible refine Below.setCell ?_ ?_ _ | omega | (simp; done) | (simp; omega)))⟩
        have d2 : (m : Int) < (k : Int) := by omega
        have q1 := (hblk2.cells.1 m).trans (bcells.get hmk)
        have q2 := hblk2.cells.2
        have hS1 := pickI_succ p m
        have hlen := pickI_len p m
        have hmI : I64 (m : Int) := by simp only [I64]; omega
        have hzo : wo.heap.size ≤ wr.heap.size := hz2'
        cases cm : p m with
        | false =>
          rw [cm] at q1 hS1
          rw [if_neg (by simp)] at hS1
          have HS := Lib.hid hS1
          clear hS1
          go_wp2
          case roundEnd =>
            go_roundw
            case rel => exact ⟨m + 1, ao, cap, by rw [HS.out], by go_num, by omega, by rw [HS.out]; exact hown, hb2, hz2', hblk2⟩
            case measure => simp [intOf] <;> omega
        | true =>
          rw [cm] at q1 hS1
          rw [if_pos rfl] at hS1
          have HS := Lib.hid hS1
          clear hS1
          have hwb : w.heap.size ≤ wo.heap.size := hb.size
          go_wp2_with (at_builtin; go_must (refine wpList_appR (sh := intS) rfl _ _ 25 rfl 3 i0 (.int .i64 0) 8 Try.underlying25 hi hz0 hz1 hz2 rfl (by decide) rfl (hown.alloc _) rfl rfl (srcRep.ints [(m : Int)] rfl (by simpa using hmI)) (by simp only [maxLen]; omega) (by omega) (by first | omega | (simp; done) | (simp; omega)) ?_); go_must (intro ao3 cap3 w4 hown3 hg3 _; have hb3 := grown_below (B := wo.heap.size) hg3 (fun k hk => (hown.lt k hk).1) (by first | omega | (simp; done) | (simp; omega))))
          case roundEnd =>
            go_roundw
            case rel =>
              refine ⟨m + 1, ao3, cap3, by rw [HS.out, List.length_append]; rfl, by go_num, by omega, by rw [HS.out, List.length_append]; exact hown3, hb2.trans (Below.trans (by (repeat' (first | with_reducible exact Below.refl _ _ | with_reducible assumption | with_reducible refine Below.drew ?_ | with_reducible refine Below_drewN ?_ _ | with_reducible refine Below.alloc ?_ ?_ _ | with_reducible refine Below.setCell ?_ ?_ _ | omega | (simp; done) | (simp; omega)))) (hb3.mono hwb)), ?_, ?_⟩
              · have := hb3.size; simp at this; omega
              · exact (hblk2.alloc _).below hb3 hzk
            case measure => simp [intOf] <;> omega
    have hN1 : N - k = (N - (k + 1)) + 1 := by omega
    have hst2 := Lib.hid (rounds_step (ls := t.links) (k := N - (k + 1)) (p := p) (c := c) (by rw [← hN1]; exact hall.out))
    have d1 : (k : Int) < (N : Int) := by omega
    clear hall
    go_wp2
    go_loopw [7, 38] (fun _ idx wr => ∃ (j : Nat) (p : Nat → Bool), idx = .int .i64 j ∧ j ≤ t.links.length ∧ Hid (roundsR t.links (N - (k + 1)) ((t.links.drop j).foldl relax p) = c) ∧ blockIs wr w1.heap.size 4 (bcells N p) ∧ Below w.heap.size w wr ∧ blockIs wr w.heap.size 24 #[.int .i64 t.n, .slice la t.links.length lc]) (fun _ idx _ => t.links.length - (intOf idx).toNat)
    case atStart => exact ⟨0, p, rfl, Nat.zero_le _, hst2, hblk, hb, hB⟩
    case round =>
      clear hblk hb hB t1 t2
      obtain ⟨j, q, rfl, hj, hall, hblk, hb, hB⟩ := hrel
      have hzq := hblk.lt
      have hzt := hB.lt
      by_cases hlt : j < t.links.length
      case neg =>
        have HE := Lib.hid (fold_end hall.out (by omega))
        have d2 : ¬ (j : Int) < (t.links.length : Int) := by omega
        clear hall
        go_wp2
        case roundEnd =>
          go_roundw
          case rel => exact ⟨k + 1, q, by go_num, by omega, HE, hblk, hb, hB⟩
          case measure => simp [intOf] <;> omega
      obtain ⟨l, hl⟩ : ∃ l, t.links[j]? = some l := ⟨_, List.getElem?_eq_getElem hlt⟩
      have HS := Lib.hid (fold_step hall.out hl)
      have hlo := HOK.out l (List.mem_of_getElem? hl)
      obtain ⟨g, off, rfl, _, hbl, cs, hcs, hce⟩ := hr.get hl
      obtain ⟨rfl, _⟩ := hcs
      have e0 := cell_at hb hbl (hce 0 _ rfl)
      have e1 := cell_at hb hbl (hce 1 _ rfl)
      have e2 := cell_at hb hbl (hce 2 _ rfl)
      clear hce hall
      simp only [linkS, Nat.add_zero] at e0 e1 e2
      obtain ⟨xa, xb, xc⟩ := l
      have ha0 := hlo.a0
      have ha1 := hlo.a1
      have hb0 := hlo.b0
      have hb1 := hlo.b1
      clear hlo
      dsimp only at *
      obtain ⟨A, rfl⟩ := Int.eq_ofNat_of_zero_le ha0
      obtain ⟨B, rfl⟩ := Int.eq_ofNat_of_zero_le hb0
      have hA : A < N := by omega
      have hB' : B < N := by omega
      have a1 : (A : Int) < (N : Int) := by omega
      have a2 : (B : Int) < (N : Int) := by omega
      have d2 : (j : Int) < (t.links.length : Int) := by omega
      have q1 := (hblk.cells.1 A).trans (bcells.get hA)
      have q2 := (hblk.cells.1 B).trans (bcells.get hB')
      have q3 := hblk.cells.2
      clear hl ha1 hb1
      have hrel0 : relax q ⟨(A : Int), (B : Int), xc⟩ = if q A || q B then fun i => (q i || i == A) || i == B else q := rfl
      by_cases hm : q A = false ∧ q B = false
      · obtain ⟨m1, m2⟩ := hm
        rw [m1] at q1
        rw [m2] at q2
        rw [m1, m2, Bool.or_self, if_neg (by simp)] at hrel0
        rw [hrel0] at HS
        clear m1 m2 hrel0
        go_wp2
        case roundEnd =>
          go_roundw
          case rel => exact ⟨j + 1, q, by go_num, by omega, HS, hblk.alloc _, by (repeat' (first | with_reducible exact Below.refl _ _ | with_reducible assumption | with_reducible refine Below.drew ?_ | with_reducible refine Below_drewN ?_ _ | with_reducible refine Below.alloc ?_ ?_ _ | with_reducible refine Below.setCell ?_ ?_ _ | omega | (simp; done) | (simp; omega))), hB.alloc _⟩
          case measure => simp [intOf] <;> omega
      · have hor : (q A || q B) = true := by cases x1 : q A <;> cases x2 : q B <;> simp_all
        rw [hor, if_pos rfl] at hrel0
        rw [hrel0] at HS
        clear hrel0
        have hA3 : blockIs (wr.alloc (.cells #[.int .i64 A, .int .i64 B, .int .i64 xc] 38)) w1.heap.size 4 (bcells N q) := hblk.alloc _
        have hT3 : blockIs (wr.alloc (.cells #[.int .i64 A, .int .i64 B, .int .i64 xc] 38)) w.heap.size 24 #[.int .i64 t.n, .slice (some ⟨g, off, none⟩) t.links.length lc] := hB.alloc _
        have hL3 : blockIs (wr.alloc (.cells #[.int .i64 A, .int .i64 B, .int .i64 xc] 38)) wr.heap.size 38 #[.int .i64 A, .int .i64 B, .int .i64 xc] := blockIs.new rfl
        have hB3 : Below w.heap.size w (wr.alloc (.cells #[.int .i64 A, .int .i64 B, .int .i64 xc] 38)) := by (repeat' (first | with_reducible exact Below.refl _ _ | with_reducible assumption | with_reducible refine Below.drew ?_ | with_reducible refine Below_drewN ?_ _ | with_reducible refine Below.alloc ?_ ?_ _ | with_reducible refine Below.setCell ?_ ?_ _ | omega | (simp; done) | (simp; omega)))
        have way : ∀ x y : Bool, q A = x → q B = y → (x || y) = true → True := fun _ _ _ _ _ => trivial
        clear way
        cases x1 : q A with
        | true =>
          rw [x1] at q1
          clear q2 x1 hm hor
          go_wp2
          generalize wr.alloc (.cells #[.int .i64 A, .int .i64 B, .int .i64 xc] 38) = wa at *
          refine wp_region_to (SK2 wr.heap.size A B) 99 (fun a a' w' => ∃ v54 v55 v56 v57 v58 v59 v60 v61, a' = puts a [(54, v54), (55, v55), (56, v56), (57, v57), (58, v58), (59, v59), (60, v60), (61, v61)] ∧ blockIs w' w1.heap.size 4 (bcells N (fun i => (q i || i == A) || i == B)) ∧ blockIs w' w.heap.size 24 #[.int .i64 t.n, .slice (some ⟨g, off, none⟩) t.links.length lc] ∧ Below w.heap.size w w') (by kernel_rfl) ?_ ?_
          · intro Q' hR hQp
            have hS : SK2 wr.heap.size A B wa.drew := SK2.of hL3.drew
            refine wpAnyK_take' (i := 0) (.slice (some ⟨w1.heap.size, 0, none⟩) N N) rfl (by kernel_rfl) (fun _ _ _ h => hQp _ _ _ _ h) hS (yields_value (by kernel_rfl) (by intro w0 hw0; have hw1 := hw0; simp only [SK2] at hw1; go_simp)) ?_; simp only [Act.put, List.getElem_toArray, List.getElem_cons_succ, List.getElem_cons_zero, List.setIfInBounds_toArray, List.set_cons_succ, List.set_cons_zero]
            refine wpAnyK_take' (i := 1) (.pointer (some ⟨wr.heap.size, 0, none⟩)) rfl (by kernel_rfl) (fun _ _ _ h => hQp _ _ _ _ h) hS (yields_value (by kernel_rfl) (by intro w0 hw0; have hw1 := hw0; simp only [SK2] at hw1; go_simp)) ?_; simp only [Act.put, List.getElem_toArray, List.getElem_cons_succ, List.getElem_cons_zero, List.setIfInBounds_toArray, List.set_cons_succ, List.set_cons_zero]
            refine wpAnyK_take' (i := 2) (.int .i64 A) rfl (by kernel_rfl) (fun _ _ _ h => hQp _ _ _ _ h) hS (yields_value (by kernel_rfl) (by intro w0 hw0; have hw1 := hw0; simp only [SK2] at hw1; go_simp)) ?_; simp only [Act.put, List.getElem_toArray, List.getElem_cons_succ, List.getElem_cons_zero, List.setIfInBounds_toArray, List.set_cons_succ, List.set_cons_zero]
            refine wpAnyK_take' (i := 3) (.slice (some ⟨w1.heap.size, 0, none⟩) N N) rfl (by kernel_rfl) (fun _ _ _ h => hQp _ _ _ _ h) hS (yields_value (by kernel_rfl) (by intro w0 hw0; have hw1 := hw0; simp only [SK2] at hw1; go_simp)) ?_; simp only [Act.put, List.getElem_toArray, List.getElem_cons_succ, List.getElem_cons_zero, List.setIfInBounds_toArray, List.set_cons_succ, List.set_cons_zero]
            refine wpAnyK_take' (i := 4) (.pointer (some ⟨wr.heap.size, 1, none⟩)) rfl (by kernel_rfl) (fun _ _ _ h => hQp _ _ _ _ h) hS (yields_value (by kernel_rfl) (by intro w0 hw0; have hw1 := hw0; simp only [SK2] at hw1; go_simp)) ?_; simp only [Act.put, List.getElem_toArray, List.getElem_cons_succ, List.getElem_cons_zero, List.setIfInBounds_toArray, List.set_cons_succ, List.set_cons_zero]
            refine wpAnyK_take' (i := 5) (.int .i64 B) rfl (by kernel_rfl) (fun _ _ _ h => hQp _ _ _ _ h) hS (yields_value (by kernel_rfl) (by intro w0 hw0; have hw1 := hw0; simp only [SK2] at hw1; go_simp)) ?_; simp only [Act.put, List.getElem_toArray, List.getElem_cons_succ, List.getElem_cons_zero, List.setIfInBounds_toArray, List.set_cons_succ, List.set_cons_zero]
            refine wpAnyK_take' (i := 6) (.pointer (some ⟨w1.heap.size, A, none⟩)) rfl (by kernel_rfl) (fun _ _ _ h => hQp _ _ _ _ h) hS (yields_value (by kernel_rfl) (by intro w0 hw0; have hw1 := hw0; simp only [SK2] at hw1; go_simp)) ?_; simp only [Act.put, List.getElem_toArray, List.getElem_cons_succ, List.getElem_cons_zero, List.setIfInBounds_toArray, List.set_cons_succ, List.set_cons_zero]
            clear hS
            have hne1 : wr.heap.size ≠ w1.heap.size := by omega
            have hne2 : w.heap.size ≠ w1.heap.size := by omega
            refine wpAnyK_call (i := 7) rfl (by kernel_rfl) (by kernel_rfl) fun K7 hK7 => ?_
            have s1 := (hA3.cells.1 A).trans (bcells.get hA)
            have s2 := hA3.cells.2
            go_simp
            go_wp2_with fail
            have hA4 : blockIs ((wa.setCell ⟨w1.heap.size, A, none⟩ (.bool true)).drew) w1.heap.size 4 (bcells N (fun i => q i || i == A)) := by have := hA3.set A (.bool true); rw [bcells.set hA] at this; exact this.drew
            have hT4 := (hT3.setOther (a := ⟨w1.heap.size, A, none⟩) hne2 (.bool true)).drew
            have hL4 := (hL3.setOther (a := ⟨w1.heap.size, A, none⟩) hne1 (.bool true)).drew
            have hB4 : Below w.heap.size w ((wa.setCell ⟨w1.heap.size, A, none⟩ (.bool true)).drew) := by have := hB3.size; (repeat' (first | with_reducible exact Below.refl _ _ | with_reducible assumption | with_reducible refine Below.drew ?_ | with_reducible refine Below_drewN ?_ _ | with_reducible refine Below.alloc ?_ ?_ _ | with_reducible refine Below.setCell ?_ ?_ _ | omega | (simp; done) | (simp; omega)))
            generalize (wa.setCell ⟨w1.heap.size, A, none⟩ (.bool true)).drew = wb at *
            refine hK7 _ _ (fun _ => SK2.of hL4) ?_
            clear hK7 s1 s2
            have hS := SK2.of hL4
            refine wpAnyK_take' (i := 8) (.pointer (some ⟨w1.heap.size, B, none⟩)) rfl (by kernel_rfl) (fun _ _ _ h => hQp _ _ _ _ h) hS (yields_value (by kernel_rfl) (by intro w0 hw0; have hw1 := hw0; simp only [SK2] at hw1; go_simp)) ?_; simp only [Act.put, List.getElem_toArray, List.getElem_cons_succ, List.getElem_cons_zero, List.setIfInBounds_toArray, List.set_cons_succ, List.set_cons_zero]
            clear hS
            refine wpAnyK_call (i := 9) rfl (by kernel_rfl) (by kernel_rfl) fun K9 hK9 => ?_
            have s1 := (hA4.cells.1 B).trans (bcells.get hB')
            have s2 := hA4.cells.2
            go_simp
            go_wp2_with fail
            have hA5 := hA4.set B (.bool true)
            rw [bcells.set hB'] at hA5
            have hT5 := hT4.setOther (a := ⟨w1.heap.size, B, none⟩) hne2 (.bool true)
            have hL5 := hL4.setOther (a := ⟨w1.heap.size, B, none⟩) hne1 (.bool true)
            have hB5 : Below w.heap.size w (wb.setCell ⟨w1.heap.size, B, none⟩ (.bool true)) := by have := hB4.size; (repeat' (first | with_reducible exact Below.refl _ _ | with_reducible assumption | with_reducible refine Below.drew ?_ | with_reducible refine Below_drewN ?_ _ | with_reducible refine Below.alloc ?_ ?_ _ | with_reducible refine Below.setCell ?_ ?_ _ | omega | (simp; done) | (simp; omega)))
            refine hK9 _ _ (fun _ => SK2.of hL5) ?_
            refine wpAnyK_done (by kernel_rfl) ?_ _
            refine hR _ _ ?_
            iterate 8 apply Exists.intro
            refine ⟨?_, hA5, hT5, hB5⟩
            simp only [puts, Act.put, List.setIfInBounds_toArray, List.set_cons_succ, List.set_cons_zero]
            rfl
          rintro a' w9 ⟨v54, v55, v56, v57, v58, v59, v60, v61, rfl, hA9, hT9, hB9⟩
          simp only [puts, Act.put, List.setIfInBounds_toArray, List.set_cons_succ, List.set_cons_zero]
          clear hA3 hT3 hL3 hB3 hblk hB hb e0 e1 e2 q1 q3
          go_wp2
          case roundEnd =>
            go_roundw
            case rel => exact ⟨j + 1, _, by go_num, by omega, HS, hA9, hB9, hT9⟩
            case measure => simp [intOf] <;> omega
        | false =>
          have x2 : q B = true := by rw [x1] at hor; simpa using hor
          rw [x1] at q1
          rw [x2] at q2
          clear x1 x2 hm hor
          go_wp2
          generalize wr.alloc (.cells #[.int .i64 A, .int .i64 B, .int .i64 xc] 38) = wa at *
          refine wp_region_to (SK2 wr.heap.size A B) 99 (fun a a' w' => ∃ v54 v55 v56 v57 v58 v59 v60 v61, a' = puts a [(54, v54), (55, v55), (56, v56), (57, v57), (58, v58), (59, v59), (60, v60), (61, v61)] ∧ blockIs w' w1.heap.size 4 (bcells N (fun i => (q i || i == A) || i == B)) ∧ blockIs w' w.heap.size 24 #[.int .i64 t.n, .slice (some ⟨g, off, none⟩) t.links.length lc] ∧ Below w.heap.size w w') (by kernel_rfl) ?_ ?_
          · intro Q' hR hQp
            have hS : SK2 wr.heap.size A B wa.drew := SK2.of hL3.drew
            refine wpAnyK_take' (i := 0) (.slice (some ⟨w1.heap.size, 0, none⟩) N N) rfl (by kernel_rfl) (fun _ _ _ h => hQp _ _ _ _ h) hS (yields_value (by kernel_rfl) (by intro w0 hw0; have hw1 := hw0; simp only [SK2] at hw1; go_simp)) ?_; simp only [Act.put, List.getElem_toArray, List.getElem_cons_succ, List.getElem_cons_zero, List.setIfInBounds_toArray, List.set_cons_succ, List.set_cons_zero]
            refine wpAnyK_take' (i := 1) (.pointer (some ⟨wr.heap.size, 0, none⟩)) rfl (by kernel_rfl) (fun _ _ _ h => hQp _ _ _ _ h) hS (yields_value (by kernel_rfl) (by intro w0 hw0; have hw1 := hw0; simp only [SK2] at hw1; go_simp)) ?_; simp only [Act.put, List.getElem_toArray, List.getElem_cons_succ, List.getElem_cons_zero, List.setIfInBounds_toArray, List.set_cons_succ, List.set_cons_zero]
            refine wpAnyK_take' (i := 2) (.int .i64 A) rfl (by kernel_rfl) (fun _ _ _ h => hQp _ _ _ _ h) hS (yields_value (by kernel_rfl) (by intro w0 hw0; have hw1 := hw0; simp only [SK2] at hw1; go_simp)) ?_; simp only [Act.put, List.getElem_toArray, List.getElem_cons_succ, List.getElem_cons_zero, List.setIfInBounds_toArray, List.set_cons_succ, List.set_cons_zero]
            refine wpAnyK_take' (i := 3) (.slice (some ⟨w1.heap.size, 0, none⟩) N N) rfl (by kernel_rfl) (fun _ _ _ h => hQp _ _ _ _ h) hS (yields_value (by kernel_rfl) (by intro w0 hw0; have hw1 := hw0; simp only [SK2] at hw1; go_simp)) ?_; simp only [Act.put, List.getElem_toArray, List.getElem_cons_succ, List.getElem_cons_zero, List.setIfInBounds_toArray, List.set_cons_succ, List.set_cons_zero]
            refine wpAnyK_take' (i := 4) (.pointer (some ⟨wr.heap.size, 1, none⟩)) rfl (by kernel_rfl) (fun _ _ _ h => hQp _ _ _ _ h) hS (yields_value (by kernel_rfl) (by intro w0 hw0; have hw1 := hw0; simp only [SK2] at hw1; go_simp)) ?_; simp only [Act.put, List.getElem_toArray, List.getElem_cons_succ, List.getElem_cons_zero, List.setIfInBounds_toArray, List.set_cons_succ, List.set_cons_zero]
            refine wpAnyK_take' (i := 5) (.int .i64 B) rfl (by kernel_rfl) (fun _ _ _ h => hQp _ _ _ _ h) hS (yields_value (by kernel_rfl) (by intro w0 hw0; have hw1 := hw0; simp only [SK2] at hw1; go_simp)) ?_; simp only [Act.put, List.getElem_toArray, List.getElem_cons_succ, List.getElem_cons_zero, List.setIfInBounds_toArray, List.set_cons_succ, List.set_cons_zero]
            refine wpAnyK_take' (i := 6) (.pointer (some ⟨w1.heap.size, A, none⟩)) rfl (by kernel_rfl) (fun _ _ _ h => hQp _ _ _ _ h) hS (yields_value (by kernel_rfl) (by intro w0 hw0; have hw1 := hw0; simp only [SK2] at hw1; go_simp)) ?_; simp only [Act.put, List.getElem_toArray, List.getElem_cons_succ, List.getElem_cons_zero, List.setIfInBounds_toArray, List.set_cons_succ, List.set_cons_zero]
            clear hS
            have hne1 : wr.heap.size ≠ w1.heap.size := by omega
            have hne2 : w.heap.size ≠ w1.heap.size := by omega
            refine wpAnyK_call (i := 7) rfl (by kernel_rfl) (by kernel_rfl) fun K7 hK7 => ?_
            have s1 := (hA3.cells.1 A).trans (bcells.get hA)
            have s2 := hA3.cells.2
            go_simp
            go_wp2_with fail
            have hA4 : blockIs ((wa.setCell ⟨w1.heap.size, A, none⟩ (.bool true)).drew) w1.heap.size 4 (bcells N (fun i => q i || i == A)) := by have := hA3.set A (.bool true); rw [bcells.set hA] at this; exact this.drew
            have hT4 := (hT3.setOther (a := ⟨w1.heap.size, A, none⟩) hne2 (.bool true)).drew
            have hL4 := (hL3.setOther (a := ⟨w1.heap.size, A, none⟩) hne1 (.bool true)).drew
            have hB4 : Below w.heap.size w ((wa.setCell ⟨w1.heap.size, A, none⟩ (.bool true)).drew) := by have := hB3.size; (repeat' (first | with_reducible exact Below.refl _ _ | with_reducible assumption | with_reducible refine Below.drew ?_ | with_reducible refine Below_drewN ?_ _ | with_reducible refine Below.alloc ?_ ?_ _ | with_reducible refine Below.setCell ?_ ?_ _ | omega | (simp; done) | (simp; omega)))
            generalize (wa.setCell ⟨w1.heap.size, A, none⟩ (.bool true)).drew = wb at *
            refine hK7 _ _ (fun _ => SK2.of hL4) ?_
            clear hK7 s1 s2
            have hS := SK2.of hL4
            refine wpAnyK_take' (i := 8) (.pointer (some ⟨w1.heap.size, B, none⟩)) rfl (by kernel_rfl) (fun _ _ _ h => hQp _ _ _ _ h) hS (yields_value (by kernel_rfl) (by intro w0 hw0; have hw1 := hw0; simp only [SK2] at hw1; go_simp)) ?_; simp only [Act.put, List.getElem_toArray, List.getElem_cons_succ, List.getElem_cons_zero, List.setIfInBounds_toArray, List.set_cons_succ, List.set_cons_zero]
            clear hS
            refine wpAnyK_call (i := 9) rfl (by kernel_rfl) (by kernel_rfl) fun K9 hK9 => ?_
            have s1 := (hA4.cells.1 B).trans (bcells.get hB')
            have s2 := hA4.cells.2
            go_simp
            go_wp2_with fail
            have hA5 := hA4.set B (.bool true)
            rw [bcells.set hB'] at hA5
            have hT5 := hT4.setOther (a := ⟨w1.heap.size, B, none⟩) hne2 (.bool true)
            have hL5 := hL4.setOther (a := ⟨w1.heap.size, B, none⟩) hne1 (.bool true)
            have hB5 : Below w.heap.size w (wb.setCell ⟨w1.heap.size, B, none⟩ (.bool true)) := by have := hB4.size; (repeat' (first | with_reducible exact Below.refl _ _ | with_reducible assumption | with_reducible refine Below.drew ?_ | with_reducible refine Below_drewN ?_ _ | with_reducible refine Below.alloc ?_ ?_ _ | with_reducible refine Below.setCell ?_ ?_ _ | omega | (simp; done) | (simp; omega)))
            refine hK9 _ _ (fun _ => SK2.of hL5) ?_
            refine wpAnyK_done (by kernel_rfl) ?_ _
            refine hR _ _ ?_
            iterate 8 apply Exists.intro
            refine ⟨?_, hA5, hT5, hB5⟩
            simp only [puts, Act.put, List.setIfInBounds_toArray, List.set_cons_succ, List.set_cons_zero]
            rfl
          rintro a' w9 ⟨v54, v55, v56, v57, v58, v59, v60, v61, rfl, hA9, hT9, hB9⟩
          simp only [puts, Act.put, List.setIfInBounds_toArray, List.set_cons_succ, List.set_cons_zero]
          clear hA3 hT3 hL3 hB3 hblk hB hb e0 e1 e2 q1 q3
          go_wp2
          case roundEnd =>
            go_roundw
            case rel => exact ⟨j + 1, _, by go_num, by omega, HS, hA9, hB9, hT9⟩
            case measure => simp [intOf] <;> omega

end Go.Proofs.Ytflhmpmdpdekeaa
