/-
  The walk of the law FlowTells.
-/
import Derived.Test.YtpfapfgfchenoaaDoorRfPar
import Derived.Test.YtpfapfgfchenoaaDoorRfPri
import Derived.Test.YtpfapfgfchenoaaDoorSameF
import Derived.WalkKit
import Derived.WalkSpells
import Derived.WalkLawsBesides
import Derived.Lib.Hide
import Derived.Deep.LoopGhost
import Derived.Deep.QuietTactic
import Derived.BigQuiet
import Derived.Deep.RegionWith
import Derived.Handy
import Derived.Deep.Cut
import Derived.Lib.AtoiErrMem
set_option linter.unusedSimpArgs false
set_option linter.unusedVariables false
namespace Go.Proofs.YtpfapfgfchenoaaDoor
open Go.RowKit Go.St

set_option maxRecDepth 100000 in
set_option maxHeartbeats 16000000 in
theorem flowTells_c (w : World) (s : ByteArray) (hs : s.size ≤ 140737488355328) (l : List Flow) (hl : ∀ f ∈ l, f.via.length ≤ 10000000000 ∧ f.no.length ≤ 10000000000) (ok : Nat → Prop) (a : Option Addr) (c : Nat) (hr : rowRep flowS ok w a c l) (n : Int) (htab : Lib.TabIs Tryd.prog w "internal/strconv.uint64pow10" .u64 Lib.pow10Tab) :
    Calls Tryd.prog 3 #[.string s, .slice a l.length c, .int .i64 n] w fun e w' => e = .returned (.bool true) ∧ Below w.heap.size w w' := by
  have hlx := hr.len_le
  have HP := Lib.hid (fun w' => parse_c s hs w')
  have HD := Lib.hid (fun w' => docParse_c s hs w')
  unfold DocParse at HD
  generalize parseOf s.data.toList = M at *
  obtain ⟨m, me, mx⟩ := M
  dsimp only at *
  go_enter Tryd.func3, Tryd.ntmps3
  go_wp2_with fail
  refine (HP.out w).mono ?_
  rintro e w1 ⟨oa, oc, rfl, hra, hb1⟩
  have hx := bel_new w1 (.cells #[.int .i64 me, .int .i64 mx] 25)
  have hF2 : blockIs (w1.alloc (.cells #[.int .i64 me, .int .i64 mx] 25)) w1.heap.size 25 #[.int .i64 me, .int .i64 mx] := blockIs.new rfl
  have hra2 := hra.below hx
  have hb2 := hb1.trans (hx.mono hb1.size)
  have HB1 := Lib.hid hb1.size
  clear hra hb1 hx HP
  --CUT1
  go_upto_region 2 with fail
  generalize w1.alloc _ = w2 at *
  generalize w1.heap.size = fb at *
  have hbf : w.heap.size ≤ fb := HB1.out
  go_wp2_with fail
  refine (HD.out w2).mono ?_
  rintro e w3 ⟨ob, od, rfl, hrb, hb3⟩
  have hx := bel_new w3 (.cells #[.int .i64 me, .int .i64 mx] 25)
  have hG4 : blockIs (w3.alloc (.cells #[.int .i64 me, .int .i64 mx] 25)) w3.heap.size 25 #[.int .i64 me, .int .i64 mx] := blockIs.new rfl
  have hra4 := (hra2.below hb3).below hx
  have hrb4 := hrb.below hx
  have hF4 := (hF2.under hb3).under hx
  have hb4 := hb2.trans ((hb3.mono hb2.size).trans (hx.mono (by have := hb2.size; have := hb3.size; omega)))
  have hgb : fb < w3.heap.size := by have := hF2.lt; have := hb3.size; omega
  clear hra2 hrb hb2 hb3 hx HD hF2
  --CUT2
  go_upto_region 3 with fail
  generalize w3.alloc _ = w4 at *
  generalize w3.heap.size = gb at *
  obtain ⟨f1, f2⟩ := hF4.cells
  obtain ⟨g1, g2⟩ := hG4.cells
  have hfl := hF4.lt
  have hgl := hG4.lt
  have HSF := Lib.hid (sameFlows_c m _ _ oa ob oc od w4 hra4 hrb4)
  --CUT3
  go_wp2_with fail
  refine HSF.out.mono ?_
  rintro e w5 ⟨rfl, hb5⟩
  have hr5 := hr.below (hb4.trans (hb5.mono hb4.size))
  clear HSF hra4 hrb4
  --CUT4
  go_wp2_with fail
  refine (flowsWrong_c l n ok a c w5 hr5).mono ?_
  rintro e w6 ⟨rfl, hb6⟩
  have hr6 := hr5.below hb6
  --CUT5
  go_wp2_with fail
  refine (refFlowsWrong_c l n ok a c w6 hr6).mono ?_
  rintro e w7 ⟨rfl, hb7⟩
  have hq := hb5.trans ((hb6.mono hb5.size).trans (hb7.mono (by have := hb5.size; have := hb6.size; omega)))
  have hF7 := hF4.under hq
  have hG7 := hG4.under hq
  have hb8 := hb4.trans (hq.mono hb4.size)
  have hr7 := hr6.below hb7
  have htab7 := tab_below htab hb8
  clear f1 f2 g1 g2 hfl hgl hF4 hG4 hb4 hb5 hb6 hb7 hr5 hr6 hq
  have HPR := Lib.hid (print_c l n hl ok a c w7 hr7 htab7)
  have HDR := Lib.hid (fun (w' : World) (hb : Below w.heap.size w w') => docPrint_c l n hl ok a c w' (hr.below hb) (tab_below htab hb))
  generalize printT l n = TX at *
  generalize flowsWrong l n = FW at *
  obtain ⟨we, wx⟩ := FW
  dsimp only at *
  --CUT6
  go_wp2_with fail
  refine HPR.out.mono ?_
  rintro e w8 ⟨rfl, hb9⟩
  have hF9 := hF7.under hb9
  have hG9 := hG7.under hb9
  have hbA := hb8.trans (hb9.mono hb8.size)
  obtain ⟨f1, f2⟩ := hF9.cells
  have hfl := hF9.lt
  have hFA := (hF9.set 0 (.int .i64 we)).set 1 (.int .i64 wx)
  simp only [List.setIfInBounds_toArray, List.set_cons_succ, List.set_cons_zero] at hFA
  have hGA := (hG9.setOther (a := ⟨fb, 0, none⟩) (show gb ≠ fb by omega) (.int .i64 we)).setOther (a := ⟨fb, 1, none⟩) (show gb ≠ fb by omega) (.int .i64 wx)
  have hbB := (hbA.setCell (p := ⟨fb, 0, none⟩) hbf (.int .i64 we)).setCell (p := ⟨fb, 1, none⟩) hbf (.int .i64 wx)
  clear HPR hb9 hF9 hG9 hbA hF7 hG7 hb8 hr7 htab7
  --CUT7
  go_upto_region 6 with fail
  clear f1 f2 hfl
  generalize ((w8.setCell _ _).setCell _ _) = w9 at *
  --CUT8
  go_wp2_with fail
  refine (HDR.out w9 hbB).mono ?_
  rintro e v1 ⟨rfl, hc1⟩
  have hF1 := hFA.under hc1
  have hG1 := hGA.under hc1
  have hbC := hbB.trans (hc1.mono hbB.size)
  obtain ⟨g1, g2⟩ := hG1.cells
  have hgl := hG1.lt
  have hG2 := (hG1.set 0 (.int .i64 we)).set 1 (.int .i64 wx)
  simp only [List.setIfInBounds_toArray, List.set_cons_succ, List.set_cons_zero] at hG2
  have hF2 := (hF1.setOther (a := ⟨gb, 0, none⟩) (show fb ≠ gb by omega) (.int .i64 we)).setOther (a := ⟨gb, 1, none⟩) (show fb ≠ gb by omega) (.int .i64 wx)
  have hgg : w.heap.size ≤ gb := by omega
  have hbD := (hbC.setCell (p := ⟨gb, 0, none⟩) hgg (.int .i64 we)).setCell (p := ⟨gb, 1, none⟩) hgg (.int .i64 wx)
  clear HDR hc1 hF1 hG1 hbC hbB hFA hGA
  --CUT9
  go_upto_region 7 with fail
  clear g1 g2 hgl
  generalize ((v1.setCell _ _).setCell _ _) = v2 at *
  obtain ⟨f1, f2⟩ := hF2.cells
  obtain ⟨g1, g2⟩ := hG2.cells
  have hfl := hF2.lt
  have hgl := hG2.lt
  --CUTA
  go_wp2
  go_ret; exact ⟨rfl, hbD⟩

end Go.Proofs.YtpfapfgfchenoaaDoor
