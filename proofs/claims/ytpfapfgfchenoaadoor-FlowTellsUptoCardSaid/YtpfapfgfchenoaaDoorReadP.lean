/-
  The walk of flows.Parse.
-/
import Derived.Test.YtpfapfgfchenoaaDoorReadL
import Derived.WalkKit
import Derived.WalkSpells
import Derived.WalkLawsBesides
import Derived.Lib.Hide
import Derived.Deep.LoopGhost
import Derived.Deep.QuietTactic
import Derived.BigQuiet
import Derived.Deep.RegionWith
import Derived.Handy
import Derived.Deep.Cut
import Derived.Lib.AtoiErrMem
set_option linter.unusedSimpArgs false
set_option linter.unusedVariables false
namespace Go.St
open Go.RowKit
theorem parse_end {L l : List UInt8} {n k : Nat} {acc : List Flow} (h : parseOf L = parseGo n k l acc) (hk : l.length < k) (hl : l = []) : parseOf L = (acc, (0, 0)) := by
  obtain ⟨k, rfl⟩ : ∃ j, k = j + 1 := ⟨k - 1, by omega⟩
  rw [h, parseGo, if_pos hl]
theorem parse_none {L l : List UInt8} {n k : Nat} {acc : List Flow} (h : parseOf L = parseGo n k l acc) (hk : l.length < k) (hl : l ≠ []) (hn : lineP l = none) : parseOf L = ([], (2, ((n - l.length : Nat) : Int))) := by
  obtain ⟨k, rfl⟩ : ∃ j, k = j + 1 := ⟨k - 1, by omega⟩
  rw [h, parseGo, if_neg hl, hn]
theorem parse_more {L l r : List UInt8} {n k : Nat} {acc : List Flow} {f : Flow} (h : parseOf L = parseGo n k l acc) (hk : l.length < k) (hn : lineP l = some (f, r)) : ∃ k', r.length < k' ∧ parseOf L = parseGo n k' r (acc ++ [f]) := by
  obtain ⟨k, rfl⟩ : ∃ j, k = j + 1 := ⟨k - 1, by omega⟩
  have := lineP_some hn
  exact ⟨k, by omega, by rw [h, parseGo, if_neg this.2, hn]⟩
theorem ownR_not {α : Type} {sh : Shape α} {e : TypeId} {ok : Nat → Prop} {base : Nat} {w : World} {ao : Option Addr} {n cap : Nat} {xs : List α} (h : ownR sh e ok base w ao n cap xs) : ∀ k, blk ao = some k → ¬ ok k := by obtain ⟨_, _, _, _, h4, _⟩ := h; exact h4
theorem ownR_okLt {α : Type} {sh : Shape α} {e : TypeId} {ok : Nat → Prop} {base : Nat} {w : World} {ao : Option Addr} {n cap : Nat} {xs : List α} (h : ownR sh e ok base w ao n cap xs) : ∀ b, ok b → b < w.heap.size := by obtain ⟨_, _, _, _, _, h5⟩ := h; exact h5
end Go.St
namespace Go.Proofs.YtpfapfgfchenoaaDoor
open Go.RowKit Go.St
theorem flow_info9 : (Tryd.prog.info? 40).map (fun i => (i.zero, i.size, i.bytes)) = some (some (.agg #[.int .i64 0, .int .i64 0, .slice none 0 0, .slice none 0 0]), 4, 64) := by kernel_rfl

set_option maxRecDepth 100000 in
set_option maxHeartbeats 16000000 in
theorem parse_c (s : ByteArray) (hs0 : s.size ≤ 140737488355328) (w : World) :
    Calls Tryd.prog 6 #[.string s] w fun e w' => ∃ (oa : Option Addr) (oc : Nat), e = .returned (.tuple #[.slice oa (parseOf s.data.toList).1.length oc, .agg #[.int .i64 (parseOf s.data.toList).2.1, .int .i64 (parseOf s.data.toList).2.2]]) ∧ rowRep flowS (fun b => w.heap.size ≤ b) w' oa oc (parseOf s.data.toList).1 ∧ Below w.heap.size w w' := by
  obtain ⟨i0, gi, gz0, gz1, gz2⟩ := info_parts flow_info9
  have hb0 := bel_new w (.cells #[.int .i64 0, .int .i64 0] 25)
  have hG0 : blockIs (w.alloc (.cells #[.int .i64 0, .int .i64 0] 25)) w.heap.size 25 #[.int .i64 0, .int .i64 0] := blockIs.new rfl
  go_enter Tryd.func6, Tryd.ntmps6
  by_cases hlen : s.size ≤ 2000
  case neg =>
    have HE : Hid (parseOf s.data.toList = ([], (4, 0))) := Lib.hid (by unfold parseOf; rw [if_pos (by rw [str_len]; omega)])
    have c1 : (2000 : Int) < (s.size : Int) := by omega
    have hBz := bel_new w (.cells #[.int .i64 4, .int .i64 0] 25)
    have hGz : blockIs (w.alloc (.cells #[.int .i64 4, .int .i64 0] 25)) w.heap.size 25 #[.int .i64 4, .int .i64 0] := blockIs.new rfl
    obtain ⟨f1, f2⟩ := hG0.cells
    obtain ⟨x1, x2⟩ := hGz.cells
    have hfl := hG0.lt
    --CUT1
    go_wp2_with fail
    with_reducible refine bodyPost_ret (v := .tuple #[.slice none 0 0, .agg #[.int .i64 4, .int .i64 0]]) ?ra1 ?rb1 ?rc1
    case ra1 => simp [results, Tryd.results6, go_sem, x1]
    case rb1 => rfl
    case rc1 => rw [HE.out]; exact ⟨none, 0, rfl, rowRep.nil _ _ _ _, hBz⟩
  have c1 : ¬ (2000 : Int) < (s.size : Int) := by omega
  have hW2 : blockIs (((w.alloc (.cells #[.int .i64 0, .int .i64 0] 25))).alloc (.cells #[.string s, .int .i64 0, .bool false] 37)) (w.heap.size + 1) 37 #[.string s, .int .i64 ((0 : Nat) : Int), .bool false] := blockIs.new (by simp)
  have hG2 := hG0.alloc (.cells #[.string s, .int .i64 0, .bool false] 37)
  have hb2 : Below w.heap.size w (((w.alloc (.cells #[.int .i64 0, .int .i64 0] 25))).alloc (.cells #[.string s, .int .i64 0, .bool false] 37)) := by (repeat' (first | with_reducible (first | exact Below.refl _ _ | assumption | refine Below.drew ?_ | refine Below_drewN ?_ _ | refine Below.alloc ?_ ?_ _ | refine Below.setCell ?_ ?_ _) | omega | (simp; done) | (simp; omega)))
  have hsz2 : (((w.alloc (.cells #[.int .i64 0, .int .i64 0] 25))).alloc (.cells #[.string s, .int .i64 0, .bool false] 37)).heap.size = w.heap.size + 2 := by simp
  have HP0 : Hid (∃ k, (s.data.toList.drop 0).length < k ∧ parseOf s.data.toList = parseGo s.size k (s.data.toList.drop 0) []) := Lib.hid ⟨s.size + 1, by rw [List.drop_zero, str_len]; omega, by unfold parseOf; rw [if_neg (by rw [str_len]; omega), str_len, List.drop_zero]⟩
  clear hb0 hG0
  --CUT2
  go_wp2
  generalize ((w.alloc _).alloc _) = w2 at *
  generalize hfb : w.heap.size = fb at *
  have HFB := Lib.hid hfb
  clear hfb
  --CUT3
  go_loopw [5] (fun ov wr => ∃ (acc : List Flow) (oa : Option Addr) (oc q : Nat) (ok : Nat → Prop), ov = .slice oa acc.length oc ∧ blockIs wr (fb + 1) 37 #[.string s, .int .i64 (q : Int), .bool false] ∧ blockIs wr fb 25 #[.int .i64 0, .int .i64 0] ∧ Below fb w wr ∧ w2.heap.size ≤ wr.heap.size ∧ ownR flowS 40 ok w2.heap.size wr oa acc.length oc acc ∧ (∀ b, ok b → w2.heap.size ≤ b) ∧ q ≤ s.size ∧ acc.length ≤ q ∧ Hid (∃ k, (s.data.toList.drop q).length < k ∧ parseOf s.data.toList = parseGo s.size k (s.data.toList.drop q) acc)) (fun ov _ => 3000 - lenOf ov)
  case atStart => exact ⟨[], none, 0, 0, fun _ => False, rfl, hW2, hG2, hb2, Nat.le_refl _, ownR.nil _ _ _ _ _ (fun _ h => h.elim), fun _ h => h.elim, Nat.zero_le _, Nat.le_refl _, HP0⟩
  case round =>
    clear hW2 hG2 hb2 HP0
    obtain ⟨acc, oa, oc, q, ok, rfl, hr, hG, hb, hsz, hO, hok, hq, haq, HP⟩ := hrel
    rename World => wo
    obtain ⟨r1, r2⟩ := hr.cells
    have hrl := hr.lt
    by_cases hlt : q < s.size
    case neg =>
      have b1 : ¬ (q : Int) < (s.size : Int) := by omega
      have HE : Hid (parseOf s.data.toList = (acc, (0, 0))) := Lib.hid (by
        obtain ⟨k, hk, he⟩ := HP.out
        exact parse_end he hk (List.drop_of_length_le (by rw [str_len]; omega)))
      have hGz := (hG.set 0 (.int .i64 0)).set 1 (.int .i64 0)
      simp only [List.setIfInBounds_toArray, List.set_cons_succ, List.set_cons_zero] at hGz
      have hBz := (hb.setCell (p := ⟨fb, 0, none⟩) (Nat.le_refl _) (.int .i64 0)).setCell (p := ⟨fb, 1, none⟩) (Nat.le_refl _) (.int .i64 0)
      have hOz := (hO.row (ok' := fun b => fb < b) (fun b hk => by have := hok b hk; omega) (fun k hk => by have := (hO.lt k hk).1; omega)).mono (w' := (wo.setCell ⟨fb, 0, none⟩ (.int .i64 0)).setCell ⟨fb, 1, none⟩ (.int .i64 0)) (ok' := fun b => fb ≤ b) (fun b _ hk => ⟨by omega, by rw [Below.heap_setCell _ _ _ _ (show b ≠ fb by omega), Below.heap_setCell _ _ _ _ (show b ≠ fb by omega)]⟩)
      obtain ⟨f1, f2⟩ := hG.cells
      obtain ⟨x1, x2⟩ := hGz.cells
      have hfl := hG.lt
      --CUT4
      go_wp2_with fail
      with_reducible refine bodyPost_ret (v := .tuple #[.slice oa acc.length oc, .agg #[.int .i64 0, .int .i64 0]]) ?ra1 ?rb1 ?rc1
      case ra1 => simp [results, Tryd.results6, go_sem, x1]
      case rb1 => rfl
      case rc1 => rw [HE.out]; (try rw [HFB.out]); exact ⟨oa, oc, rfl, hOz, hBz⟩
    have b1 : (q : Int) < (s.size : Int) := by omega
    --CUT5
    go_wp2_with fail
    refine (line_c2 s hlen q hq (fb + 1) (fb + 1) (Nat.le_refl _) wo hr).mono ?_
    rintro e w3 ⟨f, cs, q3, bad, rfl, hfr, hr3, hF3, hq3, hL⟩
    have hG3 := hF3.blk hG (.inr (by omega))
    have hb3 := hb.trans (hF3.below.mono (by omega))
    have hsz3 := hF3.size
    have hO3 := hO.frm hF3 (fun b hk e => by have := hok b hk; omega) (fun k hk e => by have := (hO.lt k hk).1; omega)
    clear r1 r2 hrl hr hG
    have hOL := hO.lt
    have hON := ownR_not hO
    have hO4 : ownR flowS 40 (fun b => ok b ∨ (wo.heap.size ≤ b ∧ b < w3.heap.size)) w2.heap.size w3 oa acc.length oc acc := hO3.weaken (fun b h => .inl h) (fun k hk h => by
      rcases h with h | h
      · exact hON k hk h
      · have := (hOL k hk).2; omega) (fun b h => by
      rcases h with h | h
      · have := ownR_okLt hO3 b h; exact this
      · exact h.2)
    obtain ⟨va, vc, na, nc, rfl, hI1, hI2, hvia, hno⟩ := hfr
    clear hO hO3 hOL hON
    --CUT6
    go_upto_region 8 with fail
    have hx := bel_new w3 (.cells #[.int .i64 f.src, .int .i64 f.dst, .slice va f.via.length vc, .slice na f.no.length nc] 40)
    have hf5 : blockIs (w3.alloc (.cells #[.int .i64 f.src, .int .i64 f.dst, .slice va f.via.length vc, .slice na f.no.length nc] 40)) w3.heap.size 40 #[.int .i64 f.src, .int .i64 f.dst, .slice va f.via.length vc, .slice na f.no.length nc] := blockIs.new rfl
    have hr5 := hr3.under hx
    have hG5 := hG3.under hx
    have hb5 := hb3.trans (hx.mono (by omega))
    have hz5 := hx.size
    have hO5 := hO4.below hx
    have hvia5 := (hvia.anyOk (ok' := fun b => ok b ∨ (wo.heap.size ≤ b ∧ b < w3.heap.size)) (fun b hl hk => .inr ⟨hk, hl⟩)).below hx
    have hno5 := (hno.anyOk (ok' := fun b => ok b ∨ (wo.heap.size ≤ b ∧ b < w3.heap.size)) (fun b hl hk => .inr ⟨hk, hl⟩)).below hx
    clear hr3 hG3 hb3 hx hO4 hvia hno
    generalize w3.alloc _ = w5 at *
    generalize w3.heap.size = xb at *
    obtain ⟨r1, r2⟩ := hr5.cells
    have hrl := hr5.lt
    rcases hL with ⟨rfl, hL⟩ | ⟨rfl, hL⟩
    case inr =>
      have HE : Hid (parseOf s.data.toList = ([], (2, (q : Int)))) := Lib.hid (by
        obtain ⟨k, hk, he⟩ := HP.out
        have := parse_none he hk (by intro e; have := congrArg List.length e; rw [List.length_drop, str_len, List.length_nil] at this; omega) hL
        rw [this, List.length_drop, str_len]
        congr 2
        omega)
      have hGz := (hG5.set 0 (.int .i64 2)).set 1 (.int .i64 (q : Int))
      simp only [List.setIfInBounds_toArray, List.set_cons_succ, List.set_cons_zero] at hGz
      have hBz := (hb5.setCell (p := ⟨fb, 0, none⟩) (Nat.le_refl _) (.int .i64 2)).setCell (p := ⟨fb, 1, none⟩) (Nat.le_refl _) (.int .i64 (q : Int))
      obtain ⟨f1, f2⟩ := hG5.cells
      obtain ⟨x1, x2⟩ := hGz.cells
      have hfl := hG5.lt
      --CUT7
      go_wp2_with fail
      with_reducible refine bodyPost_ret (v := .tuple #[.slice none 0 0, .agg #[.int .i64 2, .int .i64 (q : Int)]]) ?ra1 ?rb1 ?rc1
      case ra1 => simp [results, Tryd.results6, go_sem, x1]
      case rb1 => rfl
      case rc1 => rw [HE.out]; (try rw [HFB.out]); exact ⟨none, 0, rfl, rowRep.nil _ _ _ _, hBz⟩
    have HN : Hid (∃ k, (s.data.toList.drop q3).length < k ∧ parseOf s.data.toList = parseGo s.size k (s.data.toList.drop q3) (acc ++ [f])) := Lib.hid (by
      obtain ⟨k, hk, he⟩ := HP.out
      exact parse_more he hk hL)
    have hqq : q < q3 := by
      have := (lineP_some hL).1
      rw [List.length_drop, List.length_drop, str_len] at this
      omega
    have hx := bel_new w5 (.cells #[.int .i64 f.src, .int .i64 f.dst, .slice va f.via.length vc, .slice na f.no.length nc] 40)
    have hE : blockIs (w5.alloc (.cells #[.int .i64 f.src, .int .i64 f.dst, .slice va f.via.length vc, .slice na f.no.length nc] 40)) w5.heap.size 40 #[.int .i64 f.src, .int .i64 f.dst, .slice va f.via.length vc, .slice na f.no.length nc] := blockIs.new rfl
    have hr6 := hr5.under hx
    have hG6 := hG5.under hx
    have hb6 := hb5.trans (hx.mono (by omega))
    have hO6 := hO5.below hx
    have hz6 : w2.heap.size ≤ (w5.alloc (.cells #[.int .i64 f.src, .int .i64 f.dst, .slice va f.via.length vc, .slice na f.no.length nc] 40)).heap.size := by have := hx.size; omega
    have hsrc := src_one (sh := flowS) (ok := fun b => ok b ∨ (wo.heap.size ≤ b ∧ b < xb)) (x := f) hE ⟨va, vc, na, nc, rfl, hI1, hI2, hvia5.below hx, hno5.below hx⟩
    obtain ⟨f1, f2⟩ := hf5.cells
    have hfl := hf5.lt
    clear hL HP hE hx hr5 hG5 hb5 hO5
    --CUT8
    go_wp2_with (at_builtin; go_must (refine wpList_appR (sh := flowS) (n := acc.length) (m := 1) rfl _ _ 22 rfl 40 i0 (.agg #[.int .i64 0, .int .i64 0, .slice none 0 0, .slice none 0 0]) 64 Tryd.underlying22 gi gz0 gz1 gz2 rfl (by decide) rfl hO6 rfl rfl hsrc (by simp only [maxLen]; omega) (by omega) hz6 ?_); go_must (intro oa4 oc4 w8 hO8 hg8 hd8))
    --CUT9
    case roundEnd =>
      have h8 := hr6.grown hg8 (fun e => by have := (hO6.lt _ e.symm).1; omega)
      have hG8 := hG6.grown hg8 (fun e => by have := (hO6.lt _ e.symm).1; omega)
      have hb8 := hb6.trans (grown_below hg8 (fun k hk => by have := (hO6.lt k hk).1; omega) (by omega))
      have hz8 := (grown_below hg8 (B := 0) (fun k hk => Nat.zero_le _) (Nat.zero_le _)).size
      have hl8 : (acc ++ [f]).length = acc.length + 1 := by simp
      go_roundw
      case rel => exact ⟨acc ++ [f], oa4, oc4, q3, fun b => ok b ∨ (wo.heap.size ≤ b ∧ b < xb), by rw [hl8], h8, hG8, hb8, by omega, by rw [hl8]; exact hO8, fun b hk => by
        rcases hk with hk | hk
        · exact hok b hk
        · omega, hq3, by rw [hl8]; omega, HN⟩
      case measure => simp [lenOf] <;> omega

end Go.Proofs.YtpfapfgfchenoaaDoor
