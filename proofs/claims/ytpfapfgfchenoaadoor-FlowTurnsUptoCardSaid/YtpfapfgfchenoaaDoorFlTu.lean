/-
  The walk of the law FlowTurns.
-/
import Derived.Test.YtpfapfgfchenoaaDoorAliveF
import Derived.Test.YtpfapfgfchenoaaDoorSameF
import Derived.WalkKit
import Derived.WalkSpells
import Derived.WalkLawsBesides
import Derived.Lib.Hide
import Derived.Deep.LoopGhost
import Derived.Deep.QuietTactic
import Derived.BigQuiet
import Derived.Deep.RegionWith
import Derived.Handy
import Derived.Deep.Cut
import Derived.Lib.AtoiErrMem
set_option linter.unusedSimpArgs false
set_option linter.unusedVariables false
namespace Go.St
open Go.RowKit
theorem join_ge : ∀ (l : List Int), l.length ≤ (Lib.join (l.map Lib.itoa) [44]).length + 1
  | [] => Nat.zero_le _
  | v :: m => by
    rw [List.map_cons, Lib.join_cons, List.length_append, Lib.joinTail_length, List.length_map, List.length_cons]
    simp only [List.length_cons, List.length_nil]
    omega
theorem joinW_ge (w : List UInt8) (l : List Int) : l.length ≤ (joinW w l).length + 1 := by
  unfold joinW
  split
  · rename_i h; rw [h]; exact Nat.zero_le _
  · have := join_ge l; rw [List.length_append]; omega
theorem flow_lens {l : List Flow} {f : Flow} (h : f ∈ l) : f.via.length ≤ (textOf l).length + 1 ∧ f.no.length ≤ (textOf l).length + 1 := by
  have h1 : (flowText f).length ≤ (textOf l).length := by
    unfold textOf
    induction l with
    | nil => cases h
    | cons g l ih =>
      rw [List.map_cons, List.flatten_cons, List.length_append]
      rcases List.mem_cons.1 h with rfl | h
      · omega
      · have := ih h; omega
  have h2 := joinW_ge viaW f.via
  have h3 := joinW_ge notW f.no
  unfold flowText at h1
  simp only [List.length_append] at h1
  omega
end Go.St
namespace Go.Proofs.YtpfapfgfchenoaaDoor
open Go.RowKit Go.St

set_option maxRecDepth 100000 in
set_option maxHeartbeats 16000000 in
theorem flowTurns_c (w : World) (s : ByteArray) (hs : s.size ≤ 140737488355328) (l : List Flow) (hl : ∀ f ∈ l, f.via.length ≤ 10000000000 ∧ f.no.length ≤ 10000000000) (ok : Nat → Prop) (a : Option Addr) (c : Nat) (hr : rowRep flowS ok w a c l) (n : Int) (htab : Lib.TabIs Tryd.prog w "internal/strconv.uint64pow10" .u64 Lib.pow10Tab) :
    Calls Tryd.prog 4 #[.string s, .slice a l.length c, .int .i64 n] w fun e w' => e = .returned (.bool true) ∧ Below w.heap.size w w' := by
  have hlx := hr.len_le
  go_enter Tryd.func4, Tryd.ntmps4
  go_wp2_with fail
  refine (aliveF_c w htab).mono ?_
  rintro e w1 ⟨rfl, hb1⟩
  have hr1 := hr.below hb1
  have htab1 := tab_below htab hb1
  have HP := Lib.hid (print_c l n hl ok a c w1 hr1 htab1)
  have HTR : Hid ((flowsWrong l n).1 = 0 → n ≤ 8 → printT l n = textOf l ∧ parseOf (textOf l) = (l, (0, 0))) := fun h1 h2 => ⟨by unfold printT; rw [if_neg (fun k => k h1)], text_read h2 h1⟩
  generalize hF : flowsWrong l n = FW at *
  obtain ⟨fe, fa⟩ := FW
  clear hF
  dsimp only at *
  --CUT1
  go_wp2_with fail
  refine HP.out.mono ?_
  rintro e w2 ⟨rfl, hb2⟩
  have hx := bel_new w2 (.cells #[.int .i64 fe, .int .i64 fa] 25)
  have hF3 : blockIs (w2.alloc (.cells #[.int .i64 fe, .int .i64 fa] 25)) w2.heap.size 25 #[.int .i64 fe, .int .i64 fa] := blockIs.new rfl
  have hr3 := (hr1.below hb2).below hx
  have hb3 := hb1.trans ((hb2.mono hb1.size).trans (hx.mono (by have := hb1.size; have := hb2.size; omega)))
  clear hr1 htab1 hb1 hb2 hx HP hr
  --CUT2
  go_upto_region 4 with fail
  generalize w2.alloc _ = w3 at *
  generalize w2.heap.size = fb at *
  have htab3 := tab_below htab hb3
  obtain ⟨f1, f2⟩ := hF3.cells
  have hfl := hF3.lt
  -- the second half, from a world on
  have HS := Lib.hid (fun w' => parse_c s hs w')
  have HSB : Hid (∀ m e x, parseOf s.data.toList = (m, (e, x)) → (e ≠ 0 → m = []) ∧ (e = 0 → textOf m = s.data.toList ∧ s.size ≤ 2000)) := fun m e x h => ⟨fun he => parse_bad h he, fun he => by subst he; exact ⟨text_back h, by have := (parse_lines h).2.1; rw [str_len] at this; exact this⟩⟩
  generalize hM : parseOf s.data.toList = M at *
  obtain ⟨m, me, mx⟩ := M
  dsimp only at *
  obtain ⟨hm1, hm2⟩ := HSB.out m me mx rfl
  have HM1 := Lib.hid hm1
  have HM2 := Lib.hid hm2
  clear hM hm1 hm2 HSB
  --CUT3
  by_cases hgo : fe = 0 ∧ n ≤ 8
  case neg =>
    by_cases hfe : fe = 0
    case neg =>
      have e1 : (fe == 0) = false := by rw [beq_eq_false_iff_ne]; exact hfe
      clear hfe hgo HTR
      --CUTR1
      go_wp2_with fail
      refine (HS.out w3).mono ?_
      rintro e v4 ⟨ob, od, rfl, hq, hc4⟩
      have hx := bel_new v4 (.cells #[.int .i64 me, .int .i64 mx] 25)
      have hH5 : blockIs (v4.alloc (.cells #[.int .i64 me, .int .i64 mx] 25)) v4.heap.size 25 #[.int .i64 me, .int .i64 mx] := blockIs.new rfl
      have hq5 := hq.below hx
      have hc5 := hb3.trans ((hc4.mono hb3.size).trans (hx.mono (by have := hb3.size; have := hc4.size; omega)))
      clear hq hc4 hx HS f1 f2 hfl hF3
      go_upto_region 9 with fail
      generalize v4.alloc _ = v5 at *
      generalize v4.heap.size = yb at *
      obtain ⟨y1, y2⟩ := hH5.cells
      have hyl := hH5.lt
      by_cases hme : me = 0
      case neg =>
        have k1 : (me != 0) = true := by rw [bne_iff_ne]; exact hme
        have k2 : ((m.length : Int) == 0) = true := by rw [HM1.out hme]; rfl
        clear hme HM1 HM2
        go_wp2
        go_ret; exact ⟨rfl, hc5⟩
      case pos =>
        have k1 : (me != 0) = false := by rw [bne_eq_false_iff_eq]; exact hme
        obtain ⟨htx, h2000⟩ := HM2.out hme
        have htab5 := tab_below htab hc5
        have HPM := Lib.hid (print_c m n (fun f hf => by
          have := flow_lens hf
          rw [htx, str_len] at this
          omega) _ ob od v5 hq5 htab5)
        have HEQ : Hid ((flowsWrong m n).1 = 0 → (⟨(printT m n).toArray⟩ : ByteArray) = s) := fun h => str_ext (by
          show printT m n = _
          unfold printT
          rw [if_neg (fun k => k h), htx])
        generalize flowsWrong m n = GW at *
        obtain ⟨ge, ga⟩ := GW
        dsimp only at *
        clear hme HM1 HM2 htx
        by_cases hge : ge = 0
        case neg =>
          have k2 : (ge != 0) = true := by rw [bne_iff_ne]; exact hge
          clear hge HEQ
          --CUTS1
          go_wp2_with fail
          refine HPM.out.mono ?_
          rintro e v6 ⟨rfl, hc6⟩
          have hc7 := hc5.trans (hc6.mono hc5.size)
          have hx := bel_new v6 (.cells #[.int .i64 ge, .int .i64 ga] 25)
          have hK7 : blockIs (v6.alloc (.cells #[.int .i64 ge, .int .i64 ga] 25)) v6.heap.size 25 #[.int .i64 ge, .int .i64 ga] := blockIs.new rfl
          have hc8 := hc7.trans (hx.mono hc7.size)
          clear y1 y2 hyl k1
          go_upto_region 12 with fail
          generalize v6.alloc _ = v7 at *
          generalize v6.heap.size = zb at *
          obtain ⟨z1, z2⟩ := hK7.cells
          have hzl := hK7.lt
          go_wp2
          go_ret; exact ⟨rfl, hc8⟩
        case pos =>
          have hE := HEQ.out hge
          rw [hE] at HPM
          subst hge
          clear HEQ hE
          go_wp2_with fail
          refine HPM.out.mono ?_
          rintro e v6 ⟨rfl, hc6⟩
          have hc7 := hc5.trans (hc6.mono hc5.size)
          have hx := bel_new v6 (.cells #[.int .i64 0, .int .i64 ga] 25)
          have hK7 : blockIs (v6.alloc (.cells #[.int .i64 0, .int .i64 ga] 25)) v6.heap.size 25 #[.int .i64 0, .int .i64 ga] := blockIs.new rfl
          have hc8 := hc7.trans (hx.mono hc7.size)
          clear y1 y2 hyl k1
          go_upto_region 12 with fail
          generalize v6.alloc _ = v7 at *
          generalize v6.heap.size = zb at *
          obtain ⟨z1, z2⟩ := hK7.cells
          have hzl := hK7.lt
          --CUTT1
          go_wp2
          go_ret; exact ⟨rfl, hc8⟩
    case pos =>
      have e1 : (fe == 0) = true := by rw [beq_iff_eq]; exact hfe
      have e2 : ¬ n ≤ 8 := fun h => hgo ⟨hfe, h⟩
      clear hfe hgo HTR
      --CUTR2
      go_wp2_with fail
      refine (HS.out w3).mono ?_
      rintro e v4 ⟨ob, od, rfl, hq, hc4⟩
      have hx := bel_new v4 (.cells #[.int .i64 me, .int .i64 mx] 25)
      have hH5 : blockIs (v4.alloc (.cells #[.int .i64 me, .int .i64 mx] 25)) v4.heap.size 25 #[.int .i64 me, .int .i64 mx] := blockIs.new rfl
      have hq5 := hq.below hx
      have hc5 := hb3.trans ((hc4.mono hb3.size).trans (hx.mono (by have := hb3.size; have := hc4.size; omega)))
      clear hq hc4 hx HS f1 f2 hfl hF3
      go_upto_region 9 with fail
      generalize v4.alloc _ = v5 at *
      generalize v4.heap.size = yb at *
      obtain ⟨y1, y2⟩ := hH5.cells
      have hyl := hH5.lt
      by_cases hme : me = 0
      case neg =>
        have k1 : (me != 0) = true := by rw [bne_iff_ne]; exact hme
        have k2 : ((m.length : Int) == 0) = true := by rw [HM1.out hme]; rfl
        clear hme HM1 HM2
        go_wp2
        go_ret; exact ⟨rfl, hc5⟩
      case pos =>
        have k1 : (me != 0) = false := by rw [bne_eq_false_iff_eq]; exact hme
        obtain ⟨htx, h2000⟩ := HM2.out hme
        have htab5 := tab_below htab hc5
        have HPM := Lib.hid (print_c m n (fun f hf => by
          have := flow_lens hf
          rw [htx, str_len] at this
          omega) _ ob od v5 hq5 htab5)
        have HEQ : Hid ((flowsWrong m n).1 = 0 → (⟨(printT m n).toArray⟩ : ByteArray) = s) := fun h => str_ext (by
          show printT m n = _
          unfold printT
          rw [if_neg (fun k => k h), htx])
        generalize flowsWrong m n = GW at *
        obtain ⟨ge, ga⟩ := GW
        dsimp only at *
        clear hme HM1 HM2 htx
        by_cases hge : ge = 0
        case neg =>
          have k2 : (ge != 0) = true := by rw [bne_iff_ne]; exact hge
          clear hge HEQ
          --CUTS2
          go_wp2_with fail
          refine HPM.out.mono ?_
          rintro e v6 ⟨rfl, hc6⟩
          have hc7 := hc5.trans (hc6.mono hc5.size)
          have hx := bel_new v6 (.cells #[.int .i64 ge, .int .i64 ga] 25)
          have hK7 : blockIs (v6.alloc (.cells #[.int .i64 ge, .int .i64 ga] 25)) v6.heap.size 25 #[.int .i64 ge, .int .i64 ga] := blockIs.new rfl
          have hc8 := hc7.trans (hx.mono hc7.size)
          clear y1 y2 hyl k1
          go_upto_region 12 with fail
          generalize v6.alloc _ = v7 at *
          generalize v6.heap.size = zb at *
          obtain ⟨z1, z2⟩ := hK7.cells
          have hzl := hK7.lt
          go_wp2
          go_ret; exact ⟨rfl, hc8⟩
        case pos =>
          have hE := HEQ.out hge
          rw [hE] at HPM
          subst hge
          clear HEQ hE
          go_wp2_with fail
          refine HPM.out.mono ?_
          rintro e v6 ⟨rfl, hc6⟩
          have hc7 := hc5.trans (hc6.mono hc5.size)
          have hx := bel_new v6 (.cells #[.int .i64 0, .int .i64 ga] 25)
          have hK7 : blockIs (v6.alloc (.cells #[.int .i64 0, .int .i64 ga] 25)) v6.heap.size 25 #[.int .i64 0, .int .i64 ga] := blockIs.new rfl
          have hc8 := hc7.trans (hx.mono hc7.size)
          clear y1 y2 hyl k1
          go_upto_region 12 with fail
          generalize v6.alloc _ = v7 at *
          generalize v6.heap.size = zb at *
          obtain ⟨z1, z2⟩ := hK7.cells
          have hzl := hK7.lt
          --CUTT2
          go_wp2
          go_ret; exact ⟨rfl, hc8⟩
  case pos =>
    obtain ⟨rfl, e2⟩ := hgo
    obtain ⟨hp1, hp2⟩ := HTR.out rfl e2
    rw [hp1]
    have HQ := Lib.hid (parse_c ⟨(textOf l).toArray⟩ (by
      have := (parse_lines hp2).2.1
      show (textOf l).length ≤ _
      omega) w3)
    rw [show ((⟨(textOf l).toArray⟩ : ByteArray).data.toList) = textOf l from rfl, hp2] at HQ
    clear HTR hp1 hp2
    --CUT4
    go_wp2_with fail
    refine HQ.out.mono ?_
    rintro e w4 ⟨oa, oc, rfl, hq, hb4⟩
    have hx := bel_new w4 (.cells #[.int .i64 0, .int .i64 0] 25)
    have hG5 : blockIs (w4.alloc (.cells #[.int .i64 0, .int .i64 0] 25)) w4.heap.size 25 #[.int .i64 0, .int .i64 0] := blockIs.new rfl
    have hr5 := (hr3.below hb4).below hx
    have hq5 := hq.below hx
    have hb5 := hb3.trans ((hb4.mono hb3.size).trans (hx.mono (by have := hb3.size; have := hb4.size; omega)))
    clear f1 f2 hfl hF3 hr3 hq hb4 hx HQ
    --CUT5
    go_upto_region 6 with fail
    generalize w4.alloc _ = w5 at *
    generalize w4.heap.size = gb at *
    obtain ⟨g1, g2⟩ := hG5.cells
    have hgl := hG5.lt
    have HSF := Lib.hid (sameFlows_c l _ _ oa a oc c w5 hq5 hr5)
    --CUT6
    go_wp2_with fail
    refine HSF.out.mono ?_
    rintro e w6 ⟨rfl, hb6⟩
    have hb7 := hb5.trans (hb6.mono hb5.size)
    have htab7 := tab_below htab hb7
    clear g1 g2 hgl hG5 hr5 hq5 HSF hb6 hb5
    --CUT7
    --CUTR3
    go_wp2_with fail
    refine (HS.out w6).mono ?_
    rintro e v4 ⟨ob, od, rfl, hq, hc4⟩
    have hx := bel_new v4 (.cells #[.int .i64 me, .int .i64 mx] 25)
    have hH5 : blockIs (v4.alloc (.cells #[.int .i64 me, .int .i64 mx] 25)) v4.heap.size 25 #[.int .i64 me, .int .i64 mx] := blockIs.new rfl
    have hq5 := hq.below hx
    have hc5 := hb7.trans ((hc4.mono hb7.size).trans (hx.mono (by have := hb7.size; have := hc4.size; omega)))
    clear hq hc4 hx HS 
    go_upto_region 9 with fail
    generalize v4.alloc _ = v5 at *
    generalize v4.heap.size = yb at *
    obtain ⟨y1, y2⟩ := hH5.cells
    have hyl := hH5.lt
    by_cases hme : me = 0
    case neg =>
      have k1 : (me != 0) = true := by rw [bne_iff_ne]; exact hme
      have k2 : ((m.length : Int) == 0) = true := by rw [HM1.out hme]; rfl
      clear hme HM1 HM2
      go_wp2
      go_ret; exact ⟨rfl, hc5⟩
    case pos =>
      have k1 : (me != 0) = false := by rw [bne_eq_false_iff_eq]; exact hme
      obtain ⟨htx, h2000⟩ := HM2.out hme
      have htab5 := tab_below htab hc5
      have HPM := Lib.hid (print_c m n (fun f hf => by
        have := flow_lens hf
        rw [htx, str_len] at this
        omega) _ ob od v5 hq5 htab5)
      have HEQ : Hid ((flowsWrong m n).1 = 0 → (⟨(printT m n).toArray⟩ : ByteArray) = s) := fun h => str_ext (by
        show printT m n = _
        unfold printT
        rw [if_neg (fun k => k h), htx])
      generalize flowsWrong m n = GW at *
      obtain ⟨ge, ga⟩ := GW
      dsimp only at *
      clear hme HM1 HM2 htx
      by_cases hge : ge = 0
      case neg =>
        have k2 : (ge != 0) = true := by rw [bne_iff_ne]; exact hge
        clear hge HEQ
        --CUTS3
        go_wp2_with fail
        refine HPM.out.mono ?_
        rintro e v6 ⟨rfl, hc6⟩
        have hc7 := hc5.trans (hc6.mono hc5.size)
        have hx := bel_new v6 (.cells #[.int .i64 ge, .int .i64 ga] 25)
        have hK7 : blockIs (v6.alloc (.cells #[.int .i64 ge, .int .i64 ga] 25)) v6.heap.size 25 #[.int .i64 ge, .int .i64 ga] := blockIs.new rfl
        have hc8 := hc7.trans (hx.mono hc7.size)
        clear y1 y2 hyl k1
        go_upto_region 12 with fail
        generalize v6.alloc _ = v7 at *
        generalize v6.heap.size = zb at *
        obtain ⟨z1, z2⟩ := hK7.cells
        have hzl := hK7.lt
        go_wp2
        go_ret; exact ⟨rfl, hc8⟩
      case pos =>
        have hE := HEQ.out hge
        rw [hE] at HPM
        subst hge
        clear HEQ hE
        go_wp2_with fail
        refine HPM.out.mono ?_
        rintro e v6 ⟨rfl, hc6⟩
        have hc7 := hc5.trans (hc6.mono hc5.size)
        have hx := bel_new v6 (.cells #[.int .i64 0, .int .i64 ga] 25)
        have hK7 : blockIs (v6.alloc (.cells #[.int .i64 0, .int .i64 ga] 25)) v6.heap.size 25 #[.int .i64 0, .int .i64 ga] := blockIs.new rfl
        have hc8 := hc7.trans (hx.mono hc7.size)
        clear y1 y2 hyl k1
        go_upto_region 12 with fail
        generalize v6.alloc _ = v7 at *
        generalize v6.heap.size = zb at *
        obtain ⟨z1, z2⟩ := hK7.cells
        have hzl := hK7.lt
        --CUTT3
        go_wp2
        go_ret; exact ⟨rfl, hc8⟩

end Go.Proofs.YtpfapfgfchenoaaDoor
