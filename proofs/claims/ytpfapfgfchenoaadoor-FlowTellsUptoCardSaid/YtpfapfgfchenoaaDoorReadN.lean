/-
  The reader of a text: a row of numbers.
-/
import Derived.Test.YtpfapfgfchenoaaDoorReader
import Derived.WalkKit
import Derived.WalkSpells
import Derived.WalkLawsBesides
import Derived.Lib.Hide
import Derived.Deep.LoopGhost
import Derived.Deep.QuietTactic
import Derived.BigQuiet
import Derived.Deep.RegionWith
import Derived.Handy
import Derived.Deep.Cut
import Derived.Lib.AtoiErrMem
set_option linter.unusedSimpArgs false
set_option linter.unusedVariables false
namespace Go.St
open Go.RowKit
theorem src_one {α : Type} {sh : Shape α} {ok : Nat → Prop} {w : World} {b : Nat} {e : TypeId} {cs : List Value} {x : α} (h : blockIs w b e cs.toArray) (hr : sh.rep ok w cs x) : srcRep sh ok w (some ⟨b, 0, none⟩) [x] := by
  refine .inr ⟨b, 0, rfl, fun i y hy => ?_⟩
  match i, hy with
  | 0, hy =>
    obtain rfl : x = y := by simpa using hy
    refine ⟨cs, hr, fun j c hj => ?_⟩
    simp only [Nat.zero_mul, Nat.zero_add]
    rw [h.cells.1 j]
    simpa using hj
  | i + 1, hy => simp at hy
theorem Frm.app {W : Nat → Prop} {B : Nat} {w0 w w' : World} {row : Option Nat} (h : Frm W B w0 w) (hg : w.grownBy w' row) (hr : ∀ k, row = some k → w0.heap.size ≤ k) (hB : B ≤ w0.heap.size) : Frm W B w0 w' :=
  ⟨h.below.trans (grown_below hg (fun k hk => Nat.le_trans hB (hr k hk)) (Nat.le_trans hB h.size)), fun b hb hW => (hg.block b (Nat.lt_of_lt_of_le hb h.size) (fun e => by have := hr b e.symm; omega)).trans (h.keep b hb hW)⟩
def lenOf : Value → Nat
  | .slice _ n _ => n
  | _ => 0
theorem hp_one {l : List UInt8} {c : UInt8} : Lib.hasPrefix l [c] = true ↔ l.head? = some c := by
  cases l with
  | nil => simp [Lib.hasPrefix, List.isPrefixOf]
  | cons a r =>
    have : Lib.hasPrefix (a :: r) [c] = (c == a && List.isPrefixOf [] r) := rfl
    rw [this, show List.isPrefixOf ([] : List UInt8) r = true by cases r <;> rfl, Bool.and_true, beq_iff_eq, List.head?_cons]
    exact ⟨fun e => by rw [e], fun e => (Option.some.inj e).symm⟩
theorem nums_bad {L l : List UInt8} {out : List Int} {k : Nat} (h : numsP L = numsGo k l out) (hk : l.length < k) (hc : l.head? = some 44) (hn : numP (l.drop 1) = none) : numsP L = none := by
  obtain ⟨k, rfl⟩ : ∃ j, k = j + 1 := ⟨k - 1, by omega⟩
  rw [h, numsGo, if_pos hc, hn]
theorem nums_more {L l r : List UInt8} {out : List Int} {k : Nat} {v : Int} (h : numsP L = numsGo k l out) (hk : l.length < k) (hc : l.head? = some 44) (hn : numP (l.drop 1) = some (v, r)) : ∃ k', r.length < k' ∧ numsP L = numsGo k' r (out ++ [v]) := by
  obtain ⟨k, rfl⟩ : ∃ j, k = j + 1 := ⟨k - 1, by omega⟩
  have := (numP_some hn).2.1
  rw [List.length_drop] at this
  exact ⟨k, by omega, by rw [h, numsGo, if_pos hc, hn]⟩
theorem nums_done {L l : List UInt8} {out : List Int} {k : Nat} (h : numsP L = numsGo k l out) (hk : l.length < k) (hc : ¬ l.head? = some 44) : numsP L = some (out, l) := by
  obtain ⟨k, rfl⟩ : ∃ j, k = j + 1 := ⟨k - 1, by omega⟩
  rw [h, numsGo, if_neg hc]
theorem nums_start {l r : List UInt8} {v : Int} (h : numP l = some (v, r)) : numsP l = numsGo (r.length + 1) r [v] := by unfold numsP; rw [h]
theorem nums_none {l : List UInt8} (h : numP l = none) : numsP l = none := by unfold numsP; rw [h]
/-- how far a row of numbers is -/
structure NumsAt (s : ByteArray) (p : Nat) (out : List Int) (q : Nat) (bad : Bool) : Prop where
  le : q ≤ s.size
  len : out.length ≤ q + 1
  i64 : ∀ x ∈ out, I64 x
  go : bad = false → ∃ k, (s.data.toList.drop q).length < k ∧ numsP (s.data.toList.drop p) = numsGo k (s.data.toList.drop q) out
  none_ : bad = true → numsP (s.data.toList.drop p) = none
theorem NumsAt.start {s : ByteArray} {p q : Nat} {v : Int} {bad : Bool} (h : NumAt s p v q bad) : NumsAt s p [v] q bad :=
  ⟨h.le.2, by simp, fun x hx => by obtain rfl := List.mem_singleton.1 hx; exact I64.small (by have := h.v4; omega) (by have := h.v4; omega), fun e => ⟨_, Nat.lt_succ_self _, nums_start (h.some_ e).1⟩, fun e => nums_none (h.none_ e)⟩
theorem NumsAt.more {s : ByteArray} {p q q2 : Nat} {v : Int} {bad : Bool} {out : List Int} (h : NumsAt s p out q false) (hc : Lib.hasPrefix (s.data.toList.drop q) [44] = true) (g : NumAt s (q + 1) v q2 bad) : NumsAt s p (out ++ [v]) q2 bad := by
  obtain ⟨k, hk, he⟩ := h.go rfl
  have hd : (s.data.toList.drop q).drop 1 = s.data.toList.drop (q + 1) := by rw [List.drop_drop]
  have hv := g.v4
  refine ⟨g.le.2, by rw [List.length_append]; have := h.len; have := g.le.1; simp; omega, fun x hx => ?_, fun e => ?_, fun e => ?_⟩
  · rcases List.mem_append.1 hx with hx | hx
    · exact h.i64 x hx
    · obtain rfl := List.mem_singleton.1 hx; exact I64.small (by omega) (by omega)
  · exact nums_more he hk (hp_one.1 hc) (by rw [hd]; exact (g.some_ e).1)
  · exact nums_bad he hk (hp_one.1 hc) (by rw [hd]; exact g.none_ e)
theorem NumsAt.done {s : ByteArray} {p q : Nat} {out : List Int} (h : NumsAt s p out q false) (hc : Lib.hasPrefix (s.data.toList.drop q) [44] = false) : numsP (s.data.toList.drop p) = some (out, s.data.toList.drop q) := by
  obtain ⟨k, hk, he⟩ := h.go rfl
  exact nums_done he hk (fun e => by rw [hp_one.2 e] at hc; cases hc)
end Go.St
namespace Go.Proofs.YtpfapfgfchenoaaDoor
open Go.RowKit Go.St
theorem int_info9 : (Tryd.prog.info? 3).map (fun i => (i.zero, i.size, i.bytes)) = some (some (.int .i64 0), 1, 8) := by kernel_rfl

set_option maxRecDepth 100000 in
set_option maxHeartbeats 16000000 in
theorem nums_c (s : ByteArray) (hs : s.size ≤ 2000) (p : Nat) (hp : p ≤ s.size) (rb B : Nat) (hB : B ≤ rb) (w : World) (h : blockIs w rb 37 #[.string s, .int .i64 (p : Int), .bool false]) :
    Calls Tryd.prog 29 #[.pointer (some ⟨rb, 0, none⟩)] w fun e w' => ∃ (out : List Int) (oa : Option Addr) (oc q : Nat) (bad : Bool), e = .returned (.slice oa out.length oc) ∧ blockIs w' rb 37 #[.string s, .int .i64 (q : Int), .bool bad] ∧ Frm (fun k => k ≠ rb) B w w' ∧ rowRep intS (fun b => w.heap.size ≤ b) w' oa oc out ∧ q ≤ s.size ∧ ((bad = false ∧ numsP (s.data.toList.drop p) = some (out, s.data.toList.drop q)) ∨ (bad = true ∧ numsP (s.data.toList.drop p) = none)) := by
  obtain ⟨i0, gi, gz0, gz1, gz2⟩ := info_parts int_info9
  have hrl := h.lt
  go_enter Tryd.func29, Tryd.ntmps29
  go_wp2_with fail
  refine (num_c s hs p hp rb B hB w h).mono ?_
  rintro e w1 ⟨v, q, bad, rfl, h1, hF1, hN1⟩
  have hNN := NumsAt.start hN1
  have hx1 := bel_new w1 (.cells #[.int .i64 v] 3)
  have hO2 : ownR intS 3 (fun _ => False) w.heap.size (w1.alloc (.cells #[.int .i64 v] 3)) (some ⟨w1.heap.size, 0, none⟩) 1 1 [v] := ownR.ints (e := 3) [v] hNN.i64 hF1.size (by simp only [maxLen, List.length_cons, List.length_nil]; omega)
  have h2 := h1.under hx1
  have hF2 : Frm (fun k => k ≠ rb) B w (w1.alloc (.cells #[.int .i64 v] 3)) := hF1.trans (Frm.of hx1 (by have := hF1.size; omega))
  clear h1 hF1 hN1 hx1
  --CUT1
  go_wp2
  generalize w1.alloc _ = w2 at *
  generalize w1.heap.size = ab at *
  --CUT2
  go_loopw [3] (fun ov wr => ∃ (out : List Int) (oa : Option Addr) (oc q : Nat) (bad : Bool), ov = .slice oa out.length oc ∧ blockIs wr rb 37 #[.string s, .int .i64 (q : Int), .bool bad] ∧ Frm (fun k => k ≠ rb) B w wr ∧ ownR intS 3 (fun _ => False) w.heap.size wr oa out.length oc out ∧ NumsAt s p out q bad) (fun ov _ => 3000 - lenOf ov)
  case atStart => exact ⟨[v], _, 1, q, bad, rfl, h2, hF2, hO2, hNN⟩
  case round =>
    clear h2 hF2 hO2 hNN h
    obtain ⟨out, oa, oc, q, bad, rfl, h, hF, hO, hN⟩ := hrel
    rename World => wo
    obtain ⟨r1, r2⟩ := h.cells
    have hrl1 := h.lt
    have hlen := hN.len
    have hqs := hN.le
    cases bad with
    | true =>
      --CUT3
      go_wp2
      go_ret
      exact ⟨out, oa, oc, q, true, rfl, h, hF, hO.row (fun _ h => h.elim) (fun k hk => (hO.lt k hk).1), hqs, .inr ⟨rfl, hN.none_ rfl⟩⟩
    | false =>
      --CUT4
      go_wp2_with fail
      refine (eat_c s hs q hqs false rb B hB wo h ⟨#[44]⟩ (by decide)).mono ?_
      rintro e w3 ⟨q3, rfl, h3, hF3, hq1, hq2⟩
      have hO3 := hO.frm hF3 (fun _ h => h.elim) (fun k hk e => by have := (hO.lt k hk).1; omega)
      have hF4 := hF.trans hF3
      have hsz3 := hF3.size
      clear r1 r2 h hF3
      replace hq1 : Lib.hasPrefix (s.data.toList.drop q) [44] = true → q3 = q + 1 := hq1
      replace hq2 : Lib.hasPrefix (s.data.toList.drop q) [44] = false → q3 = q := hq2
      rw [show ((⟨#[44]⟩ : ByteArray).data.toList) = [44] from rfl]
      generalize hb : Lib.hasPrefix (s.data.toList.drop q) [44] = b9 at *
      cases b9 with
      | false =>
        have HQ := Lib.hid (hq2 rfl)
        have HB := Lib.hid hb
        clear hq1 hq2 hb
        --CUT5
        go_wp2
        go_ret
        exact ⟨out, oa, oc, q3, false, rfl, h3, hF4, hO3.row (fun _ h => h.elim) (fun k hk => (hO3.lt k hk).1), by rw [HQ.out]; exact hqs, .inl ⟨rfl, by rw [HQ.out]; exact hN.done HB.out⟩⟩
      | true =>
        have HQ := Lib.hid (hq1 rfl)
        have HB := Lib.hid hb
        have hpl := hasPrefix_len hb
        rw [List.length_drop, str_len] at hpl
        have hq3 : q3 ≤ s.size := by rw [hq1 rfl]; simp only [List.length_cons, List.length_nil] at hpl; omega
        obtain ⟨r1, r2⟩ := h3.cells
        have hrl3 := h3.lt
        clear hq1 hq2 hb hpl
        --CUT6
        go_wp2_with fail
        refine (num_c s hs q3 hq3 rb B hB w3 h3).mono ?_
        rintro e w5 ⟨v, q4, bad4, rfl, h5, hF5, hN5⟩
        rw [HQ.out] at hN5
        have hNN := hN.more HB.out hN5
        have hI := hNN.i64 v (by simp)
        have hO5 := hO3.frm hF5 (fun _ h => h.elim) (fun k hk e => by have := (hO3.lt k hk).1; omega)
        have hF6 := hF4.trans hF5
        have hbx := bel_new w5 (.cells #[.int .i64 v] 3)
        have hE : blockIs (w5.alloc (.cells #[.int .i64 v] 3)) w5.heap.size 3 #[.int .i64 v] := blockIs.new rfl
        have hO6 := hO5.below hbx
        have h6 := h5.under hbx
        have hz5 := hF6.size
        have hF7 : Frm (fun k => k ≠ rb) B w (w5.alloc (.cells #[.int .i64 v] 3)) := hF6.trans (Frm.of hbx (by omega))
        have hz7 : w.heap.size ≤ (w5.alloc (.cells #[.int .i64 v] 3)).heap.size := hF7.size
        have hsrc := src_one (sh := intS) (ok := fun _ => False) (x := v) hE ⟨rfl, hI⟩
        clear r1 r2 h3 hF4 hF5 hO3 hO5 hF6 h5 hN5 hbx hE
        --CUT7
        go_wp2_with (at_builtin; go_must (refine wpList_appR (sh := intS) (n := out.length) (m := 1) rfl _ _ 38 rfl 3 i0 (.int .i64 0) 8 Tryd.underlying38 gi gz0 gz1 gz2 rfl (by decide) rfl hO6 rfl rfl hsrc (by simp only [maxLen]; omega) (by omega) hz7 ?_); go_must (intro oa4 oc4 w8 hO8 hg8 hd8))
        --CUT8
        case roundEnd =>
          have h8 := h6.grown hg8 (fun e => by have := (hO6.lt rb e.symm).1; omega)
          have hF8 := hF7.app hg8 (fun k hk => (hO6.lt k hk).1) (by omega)
          have hl8 : (out ++ [v]).length = out.length + 1 := by simp
          have hl9 := hNN.len
          have hq9 := hNN.le
          rw [hl8] at hl9
          go_roundw
          case rel => exact ⟨out ++ [v], oa4, oc4, q4, bad4, by rw [hl8], h8, hF8, by rw [hl8]; exact hO8, hNN⟩
          case measure => simp [lenOf] <;> omega

end Go.Proofs.YtpfapfgfchenoaaDoor
