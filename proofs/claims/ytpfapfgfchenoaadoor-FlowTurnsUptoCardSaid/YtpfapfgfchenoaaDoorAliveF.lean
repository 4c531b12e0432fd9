/-
  The law's alive (stamplaw2): a text is read and written.
-/
import Derived.Test.YtpfapfgfchenoaaDoorPrintW
import Derived.Test.YtpfapfgfchenoaaDoorReadP
import Derived.WalkKit
import Derived.WalkSpells
import Derived.WalkLawsBesides
import Derived.Lib.Hide
import Derived.Deep.LoopGhost
import Derived.Deep.QuietTactic
import Derived.BigQuiet
import Derived.Deep.RegionWith
import Derived.Handy
import Derived.Deep.Cut
import Derived.Lib.AtoiErrMem
set_option linter.unusedSimpArgs false
set_option linter.unusedVariables false
namespace Go.Proofs.YtpfapfgfchenoaaDoor
open Go.RowKit Go.St
theorem alive_parse : parseOf [48, 62, 51, 32, 118, 105, 97, 32, 49, 44, 50, 32, 110, 111, 116, 32, 52, 10, 51, 62, 48, 10] = ([⟨0, 3, [1, 2], [4]⟩, ⟨3, 0, [], []⟩], (0, 0)) := by decide +kernel
theorem alive_wrong : flowsWrong [⟨0, 3, [1, 2], [4]⟩, ⟨3, 0, [], []⟩] 5 = (0, 0) := by decide +kernel
theorem alive_text : printT [⟨0, 3, [1, 2], [4]⟩, ⟨3, 0, [], []⟩] 5 = [48, 62, 51, 32, 118, 105, 97, 32, 49, 44, 50, 32, 110, 111, 116, 32, 52, 10, 51, 62, 48, 10] := by
  unfold printT
  rw [if_neg (by rw [alive_wrong]; decide)]
  exact text_back alive_parse

set_option maxRecDepth 100000 in
set_option maxHeartbeats 16000000 in
theorem aliveF_c (w : World) (htab : Lib.TabIs Tryd.prog w "internal/strconv.uint64pow10" .u64 Lib.pow10Tab) :
    Calls Tryd.prog 13 #[] w fun e w' => e = .returned (.bool true) ∧ Below w.heap.size w w' := by
  have HP := Lib.hid (parse_c ⟨#[48, 62, 51, 32, 118, 105, 97, 32, 49, 44, 50, 32, 110, 111, 116, 32, 52, 10, 51, 62, 48, 10]⟩ (by decide) w)
  have hP0 : parseOf ((⟨#[48, 62, 51, 32, 118, 105, 97, 32, 49, 44, 50, 32, 110, 111, 116, 32, 52, 10, 51, 62, 48, 10]⟩ : ByteArray).data.toList) = ([⟨0, 3, [1, 2], [4]⟩, ⟨3, 0, [], []⟩], (0, 0)) := alive_parse
  rw [hP0] at HP
  clear hP0
  go_enter Tryd.func13, Tryd.ntmps13
  go_wp2_with fail
  refine HP.out.mono ?_
  rintro e w1 ⟨oa, oc, rfl, hr1, hb1⟩
  have hx := bel_new w1 (.cells #[.int .i64 0, .int .i64 0] 25)
  have hG2 : blockIs (w1.alloc (.cells #[.int .i64 0, .int .i64 0] 25)) w1.heap.size 25 #[.int .i64 0, .int .i64 0] := blockIs.new rfl
  have hr2 := hr1.below hx
  have hb2 := hb1.trans (hx.mono hb1.size)
  have htab2 := tab_below htab hb2
  clear hr1 hb1 hx HP
  --CUT1
  go_upto_region 2 with fail
  generalize w1.alloc _ = w2 at *
  generalize w1.heap.size = gb at *
  have HPR := Lib.hid (print_c [⟨0, 3, [1, 2], [4]⟩, ⟨3, 0, [], []⟩] 5 (by decide) _ oa oc w2 hr2 htab2)
  rw [alive_text, alive_wrong] at HPR
  --CUT2
  go_wp2_with fail
  refine HPR.out.mono ?_
  rintro e w3 ⟨rfl, hb3⟩
  have hx := bel_new w3 (.cells #[.int .i64 0, .int .i64 0] 25)
  have hH4 : blockIs (w3.alloc (.cells #[.int .i64 0, .int .i64 0] 25)) w3.heap.size 25 #[.int .i64 0, .int .i64 0] := blockIs.new rfl
  have hG4 := (hG2.under hb3).under hx
  have hb4 := hb2.trans ((hb3.mono hb2.size).trans (hx.mono (by have := hb2.size; have := hb3.size; omega)))
  clear hr2 hb2 hb3 hx HPR hG2
  --CUT3
  go_upto_region 3 with fail
  generalize w3.alloc _ = w4 at *
  generalize w3.heap.size = hb9 at *
  obtain ⟨f1, f2⟩ := hG4.cells
  obtain ⟨g1, g2⟩ := hH4.cells
  have hfl := hG4.lt
  have hgl := hH4.lt
  --CUT4
  go_wp2
  go_ret; exact ⟨rfl, hb4⟩

end Go.Proofs.YtpfapfgfchenoaaDoor
