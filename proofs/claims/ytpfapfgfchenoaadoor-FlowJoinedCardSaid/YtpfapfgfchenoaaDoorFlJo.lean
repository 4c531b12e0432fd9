/-
  The walk of the law FlowJoined.
-/
import Derived.Test.YtpfapfgfchenoaaDoorAliveF
import Derived.Test.YtpfapfgfchenoaaDoorSameF
import Derived.WalkKit
import Derived.WalkSpells
import Derived.WalkLawsBesides
import Derived.Lib.Hide
import Derived.Deep.LoopGhost
import Derived.Deep.QuietTactic
import Derived.BigQuiet
import Derived.Deep.RegionWith
import Derived.Handy
import Derived.Deep.Cut
import Derived.Lib.AtoiErrMem
set_option linter.unusedSimpArgs false
set_option linter.unusedVariables false
namespace Go.St
open Go.RowKit
/-- an append behind a guard -/
theorem wpList_appRG {α : Type} {P : Program} {w : World} {sh : Shape α} {ops : Array Oper} {rest : List Oper} {o : Oper} {a : Act} {Q : Exit → Act → World → Prop} (hgd : Region.wanted o (yielded ops a.tmps) = true) (s x : Operand) (t : TypeId)
    (ho : o.op = .call { callee := .builtin .append, args := #[s, x], argTypes := #[t, t] })
    (e : TypeId) (i : TypeInfo) (z : Value) (bytes : Nat) (ht : P.underlying t = some (.slice e)) (hi : P.info? e = some i) (hz : i.zero = some z)
    (hsize : i.size = sh.size) (hby : i.bytes = bytes) (hzs : z.cells.size = sh.size) (hsz : 0 < sh.size) {ok : Nat → Prop} {base : Nat}
    {ao : Option Addr} {n cap : Nat} {xs : List α} (hs : a.eval s = .slice ao n cap) (hown : ownR sh e ok base w ao n cap xs)
    {ax : Option Addr} {m c : Nat} {ys : List α} (hx : a.eval x = .slice ax m c) (hm : ys.length = m) (hsrc : srcRep sh ok w ax ys)
    (h63 : n + m ≤ maxLen) (hbytes : (n + m) * bytes ≤ 140737488355328) (hbase : base ≤ w.heap.size)
    (h : ∀ ao' cap' w', ownR sh e ok base w' ao' (n + m) cap' (xs ++ ys) → w.grownBy w' (blk ao) → (blk ao' = blk ao ∨ blk ao' = some w.heap.size) → wpList P ops Q rest (a.put o.dst (.slice ao' (n + m) cap')) w') : wpList P ops Q (o :: rest) a w :=
  BigFrame.wpList_want hgd fun K hK => wp_appR s x t ho e i z bytes ht hi hz hsize hby hzs hsz hs hown hx hm hsrc h63 hbytes hbase fun ao' cap' w' h2 h3 h4 => hK _ _ (h ao' cap' w' h2 h3 h4)
end Go.St
namespace Go.Proofs.YtpfapfgfchenoaaDoor
open Go.RowKit Go.St

set_option maxRecDepth 100000 in
set_option maxHeartbeats 16000000 in
theorem flowJoined_c (w : World) (s : ByteArray) (hs : s.size ≤ 140737488355328) (t : ByteArray) (ht : t.size ≤ 140737488355328) (htab : Lib.TabIs Tryd.prog w "internal/strconv.uint64pow10" .u64 Lib.pow10Tab) :
    Calls Tryd.prog 5 #[.string s, .string t] w fun e w' => e = .returned (.bool true) ∧ Below w.heap.size w w' := by
  obtain ⟨i0, gi, gz0, gz1, gz2⟩ := info_parts flow_info9
  go_enter Tryd.func5, Tryd.ntmps5
  go_wp2_with fail
  refine (aliveF_c w htab).mono ?_
  rintro e w1 ⟨rfl, hb1⟩
  have HP := Lib.hid (parse_c s hs w1)
  have HQ := Lib.hid (fun w' => parse_c t ht w')
  generalize hA : parseOf s.data.toList = A at *
  obtain ⟨a, fe, fa⟩ := A
  generalize hBB : parseOf t.data.toList = BB at *
  obtain ⟨b, ge, ga⟩ := BB
  have HA := Lib.hid hA
  have HB := Lib.hid hBB
  clear hA hBB
  dsimp only at *
  --CUT1
  go_wp2_with fail
  refine HP.out.mono ?_
  rintro e w2 ⟨oa, oc, rfl, hra, hb2⟩
  have hx := bel_new w2 (.cells #[.int .i64 fe, .int .i64 fa] 25)
  have hF3 : blockIs (w2.alloc (.cells #[.int .i64 fe, .int .i64 fa] 25)) w2.heap.size 25 #[.int .i64 fe, .int .i64 fa] := blockIs.new rfl
  have hra3 := hra.below hx
  have hb3 := hb1.trans ((hb2.mono hb1.size).trans (hx.mono (by have := hb1.size; have := hb2.size; omega)))
  clear hra hb1 hb2 hx HP
  --CUT2
  go_upto_region 4 with fail
  generalize w2.alloc _ = w3 at *
  generalize w2.heap.size = fb at *
  go_wp2_with fail
  refine (HQ.out w3).mono ?_
  rintro e w4 ⟨ob, od, rfl, hrb, hb4⟩
  have hx := bel_new w4 (.cells #[.int .i64 ge, .int .i64 ga] 25)
  have hG5 : blockIs (w4.alloc (.cells #[.int .i64 ge, .int .i64 ga] 25)) w4.heap.size 25 #[.int .i64 ge, .int .i64 ga] := blockIs.new rfl
  have hF5 := (hF3.under hb4).under hx
  have hra5 := (hra3.below hb4).below hx
  have hrb5 := hrb.below hx
  have hb5 := hb3.trans ((hb4.mono hb3.size).trans (hx.mono (by have := hb3.size; have := hb4.size; omega)))
  clear hra3 hrb hb3 hb4 hx hF3 HQ
  --CUT3
  go_upto_region 5 with fail
  generalize w4.alloc _ = w5 at *
  generalize w4.heap.size = gb at *
  obtain ⟨f1, f2⟩ := hF5.cells
  obtain ⟨g1, g2⟩ := hG5.cells
  have hfl := hF5.lt
  have hgl := hG5.lt
  --CUT4
  by_cases hfe : fe = 0
  case neg =>
    have e1 : (fe != 0) = true := by rw [bne_iff_ne]; exact hfe
    clear hfe
    go_wp2
    go_ret; exact ⟨rfl, hb5⟩
  by_cases hge : ge = 0
  case neg =>
    have e1 : (fe != 0) = false := by rw [bne_eq_false_iff_eq]; exact hfe
    have e2 : (ge != 0) = true := by rw [bne_iff_ne]; exact hge
    clear hfe hge
    go_wp2
    go_ret; exact ⟨rfl, hb5⟩
  subst hfe hge
  have hw1 : IntKind.i64.wrap ((s.size : Int) + (t.size : Int)) = (s.size : Int) + (t.size : Int) := IntWalk.i64_in _ (by omega)
  by_cases hln : s.size + t.size ≤ 2000
  case neg =>
    have e3 : (2000 : Int) < (s.size : Int) + (t.size : Int) := by omega
    go_wp2
    go_ret; exact ⟨rfl, hb5⟩
  have e3 : ¬ (2000 : Int) < (s.size : Int) + (t.size : Int) := by omega
  have hst : (s ++ t).size = s.size + t.size := ByteArray.size_append
  have hJN : parseOf (s ++ t).data.toList = (a ++ b, (0, 0)) := by
    rw [str_app]
    exact parse_joined HA.out HB.out (by rw [str_len, str_len]; exact hln)
  have HC := Lib.hid (fun w' => parse_c (s ++ t) (by omega) w')
  rw [hJN] at HC
  have hal : a.length ≤ 3000 := by
    have h1 := (parse_lines HA.out).1
    have : ∀ {l : List UInt8} {m : List Flow}, Lines l m → m.length ≤ l.length := by
      intro l m h
      induction h with
      | nil => exact Nat.zero_le _
      | cons hl _ ih => have := (lineP_some hl).1; rw [List.length_cons]; omega
    have := this h1
    rw [str_len] at this
    omega
  have hbl : b.length ≤ 3000 := by
    have h1 := (parse_lines HB.out).1
    have : ∀ {l : List UInt8} {m : List Flow}, Lines l m → m.length ≤ l.length := by
      intro l m h
      induction h with
      | nil => exact Nat.zero_le _
      | cons hl _ ih => have := (lineP_some hl).1; rw [List.length_cons]; omega
    have := this h1
    rw [str_len] at this
    omega
  have z1 : ¬ 9223372036854775807 < s.size + t.size := by omega
  clear hJN HA HB
  --CUT5
  go_wp2_with fail
  refine (HC.out w5).mono ?_
  rintro e w6 ⟨oe, og, rfl, hrc, hb6⟩
  have hx := bel_new w6 (.cells #[.int .i64 0, .int .i64 0] 25)
  have hH7 : blockIs (w6.alloc (.cells #[.int .i64 0, .int .i64 0] 25)) w6.heap.size 25 #[.int .i64 0, .int .i64 0] := blockIs.new rfl
  have hra7 := (hra5.below hb6).below hx
  have hrb7 := (hrb5.below hb6).below hx
  have hrc7 := hrc.below hx
  have hb7 := hb5.trans ((hb6.mono hb5.size).trans (hx.mono (by have := hb5.size; have := hb6.size; omega)))
  clear f1 f2 g1 g2 hfl hgl hra5 hrb5 hrc hb5 hb6 hx HC hF5 hG5
  --CUT6
  go_upto_region 8 with fail
  generalize w6.alloc _ = w7 at *
  generalize w6.heap.size = hb9 at *
  obtain ⟨h1, h2⟩ := hH7.cells
  have hhl := hH7.lt
  have hx8 := bel_new w7 (.cells #[] 40)
  have hz8 := hx8.size
  have hO8 : ownR flowS 40 (fun b => b < w7.heap.size) w7.heap.size (w7.alloc (.cells #[] 40)) (some ⟨w7.heap.size, 0, none⟩) 0 0 [] := ⟨[], ownC.made _ _ _ _ #[] 0 (Nat.le_refl _) (Nat.zero_le _) rfl, rfl, by simp, fun k hk => by simp [Go.St.blk] at hk; omega, fun b hb => by simp; omega⟩
  have hsa := ((hra7.anyOk (ok' := fun b => b < w7.heap.size) (fun b hl _ => hl)).below hx8).src
  --CUT7
  go_wp2_with (first | (at_builtin; refine wpList_appRG (sh := flowS) (n := a.length) (m := b.length) (by kernel_rfl) _ _ 22 rfl 40 i0 (.agg #[.int .i64 0, .int .i64 0, .slice none 0 0, .slice none 0 0]) 64 Tryd.underlying22 gi gz0 gz1 gz2 rfl (by decide) rfl hO9 rfl rfl hsb (by simp only [maxLen]; omega) (by omega) hz9 ?_; go_must (intro mb mbc w11 hO11 hg11 hd11)) | (at_builtin; go_must (refine wpList_appRG (sh := flowS) (n := 0) (m := a.length) (by kernel_rfl) _ _ 22 rfl 40 i0 (.agg #[.int .i64 0, .int .i64 0, .slice none 0 0, .slice none 0 0]) 64 Tryd.underlying22 gi gz0 gz1 gz2 rfl (by decide) rfl hO8 rfl rfl hsa (by simp only [maxLen]; omega) (by omega) hz8 ?_); go_must (intro ma mac w9 hO9 hg9 hd9; have hb99 : Below w7.heap.size w7 w9 := hx8.trans (grown_below hg9 (fun k hk => (hO8.lt k hk).1) hz8); have hz9 := hb99.size; have hsb := (hrb7.mono (w' := w9) (ok' := fun b => b < w7.heap.size) (fun b hl _ => ⟨hl, hb99.block b hl⟩)).src; rw [Nat.zero_add] at hO9; rw [Nat.zero_add])))
  --CUT8
  have hb11 : Below w7.heap.size w7 w11 := hb99.trans (grown_below hg11 (fun k hk => (hO9.lt k hk).1) hz9)
  have hrow := hO11.row (ok' := fun _ => True) (fun _ _ => trivial) (fun _ _ => trivial)
  rw [List.nil_append] at hrow
  have HSF := sameFlows_c (a ++ b) _ _ oe mb og mbc w11 (hrc7.below hb11) hrow
  rw [List.length_append] at HSF
  have HSF2 := Lib.hid HSF
  clear HSF h1 h2
  refine HSF2.out.mono ?_
  rintro e w12 ⟨rfl, hb12⟩
  have hbz := hb7.trans ((hb11.mono hb7.size).trans (hb12.mono (by have := hb7.size; have := hb11.size; omega)))
  go_wp2
  go_ret; exact ⟨rfl, hbz⟩

end Go.Proofs.YtpfapfgfchenoaaDoor
