/-
  The document's Print.
-/
import Derived.Test.YtpfapfgfchenoaaDoorPrintW
import Derived.Test.YtpfapfgfchenoaaDoorRefFW
import Derived.WalkKit
import Derived.WalkSpells
import Derived.WalkLawsBesides
import Derived.Lib.Hide
import Derived.Deep.LoopGhost
import Derived.Deep.QuietTactic
import Derived.BigQuiet
import Derived.Deep.RegionWith
import Derived.Handy
import Derived.Deep.Cut
import Derived.Lib.AtoiErrMem
set_option linter.unusedSimpArgs false
set_option linter.unusedVariables false
namespace Go.St
open Go.RowKit
theorem joinTail_snoc (sep x : List UInt8) : ∀ l : List (List UInt8), Lib.joinTail sep (l ++ [x]) = Lib.joinTail sep l ++ (sep ++ x)
  | [] => by simp [Lib.joinTail]
  | a :: l => by
    have := joinTail_snoc sep x l
    simp [Lib.joinTail] at this ⊢
theorem joinW_take {w : List UInt8} {m : List Int} {j : Nat} {x : Int} (h : m[j]? = some x) : joinW w (m.take (j + 1)) = joinW w (m.take j) ++ ((if j = 0 then w else [44]) ++ Lib.itoa x) := by
  have hj : j < m.length := (List.getElem?_eq_some_iff.1 h).1
  rw [List.take_add_one, h]
  cases j with
  | zero =>
    rw [if_pos rfl]
    simp [joinW, Lib.join_cons, Lib.joinTail]
  | succ j =>
    rw [if_neg (by omega)]
    cases m with
    | nil => simp at hj
    | cons a m =>
      rw [List.take_succ_cons]
      show joinW w (a :: (m.take j ++ [x])) = joinW w (a :: m.take j) ++ _
      unfold joinW
      rw [if_neg (by simp), if_neg (by simp), List.map_cons, List.map_cons, List.map_append, Lib.join_cons, Lib.join_cons, List.map_cons, List.map_nil, joinTail_snoc]
      simp
end Go.St
namespace Go.Proofs.YtpfapfgfchenoaaDoor
open Go.RowKit Go.St

set_option maxRecDepth 100000 in
set_option maxHeartbeats 16000000 in
theorem docPrint_c (l : List Flow) (n : Int) (hl : ∀ f ∈ l, f.via.length ≤ 10000000000 ∧ f.no.length ≤ 10000000000) (ok : Nat → Prop) (a : Option Addr) (c : Nat) (w : World) (h : rowRep flowS ok w a c l) (htab : Lib.TabIs Tryd.prog w "internal/strconv.uint64pow10" .u64 Lib.pow10Tab) :
    Calls Tryd.prog 12 #[.slice a l.length c, .int .i64 n] w fun e w' => e = .returned (.tuple #[.string ⟨(printT l n).toArray⟩, .agg #[.int .i64 (flowsWrong l n).1, .int .i64 (flowsWrong l n).2]]) ∧ Below w.heap.size w w' := by
  have hlx := h.len_le
  have hb0 := bel_new w (.cells #[.int .i64 0, .int .i64 0] 25)
  have hG0 : blockIs (w.alloc (.cells #[.int .i64 0, .int .i64 0] 25)) w.heap.size 25 #[.int .i64 0, .int .i64 0] := blockIs.new rfl
  have HPB : Hid ((flowsWrong l n).1 ≠ 0 → printT l n = []) := fun h => by unfold printT; rw [if_pos h]
  have HPG : Hid ((flowsWrong l n).1 = 0 → printT l n = textOf l ∧ flowsWrong l n = (0, 0) ∧ l.length ≤ 12) := fun h => by
    refine ⟨by unfold printT; rw [if_neg (fun k => k h)], ?_⟩
    unfold flowsWrong at h ⊢
    split at h
    · exact absurd h (by decide)
    · rename_i h12
      rw [if_neg h12]
      refine ⟨?_, by omega⟩
      have : ∀ (m : List Flow) (i : Int), (flowsBad n i m).1 = 0 → flowsBad n i m = (0, 0) := by
        intro m
        induction m with
        | nil => intro i _; rfl
        | cons f m ih =>
          intro i hh
          unfold flowsBad at hh ⊢
          split
          · rename_i hf; rw [if_pos hf] at hh; exact ih _ hh
          · rename_i hf; rw [if_neg hf] at hh; exact absurd hh hf
      exact this l 0 h
  go_enter Tryd.func12, Tryd.ntmps12
  go_wp2_with fail
  refine (refFlowsWrong_c l n ok a c _ (h.below hb0)).mono ?_
  rintro e w1 ⟨rfl, hb1⟩
  have hG1 := hG0.under hb1
  have hx2 := bel_new w1 (.cells #[.int .i64 (flowsWrong l n).1, .int .i64 (flowsWrong l n).2] 25)
  have hR2 : blockIs (w1.alloc (.cells #[.int .i64 (flowsWrong l n).1, .int .i64 (flowsWrong l n).2] 25)) w1.heap.size 25 #[.int .i64 (flowsWrong l n).1, .int .i64 (flowsWrong l n).2] := blockIs.new rfl
  have hG2 := hG1.under hx2
  have hs1 := hG1.lt
  have hb2 : Below w.heap.size w (w1.alloc (.cells #[.int .i64 (flowsWrong l n).1, .int .i64 (flowsWrong l n).2] 25)) := hb0.trans ((hb1.mono hb0.size).trans (hx2.mono (by omega)))
  clear hG0 hb0 hb1 hG1 hx2
  --CUT1
  go_upto_region 2 with fail
  generalize w1.alloc _ = w2 at *
  generalize hxb : w1.heap.size = tb at *
  have HXB := Lib.hid hxb
  clear hxb
  obtain ⟨r1, r2⟩ := hR2.cells
  have hrl := hR2.lt
  generalize hfw : flowsWrong l n = FW at *
  obtain ⟨fe, fa⟩ := FW
  have HFW := Lib.hid hfw
  clear hfw
  dsimp only at *
  by_cases hfe : fe = 0
  case neg =>
    have HT := Lib.hid (HPB.out hfe)
    have e1 : (fe != 0) = true := by rw [bne_iff_ne]; exact hfe
    have hz2 := hb2.size
    have hS0 : SC [(⟨tb, 0, none⟩, (.int .i64 fe)), (⟨tb, 1, none⟩, (.int .i64 fa))] w2.drew := ⟨hR2.cells.1 0, hR2.cells.1 1, trivial⟩
    clear hfe HPB HPG
    --CUT2
    go_upto_region 3 with fail
    clear e1 r1 r2
    refine wp_region_to (SC [(⟨tb, 0, none⟩, (.int .i64 fe)), (⟨tb, 1, none⟩, (.int .i64 fa))]) 99 (fun a0 a' w' => ∃ v20, a' = puts a0 [(20, v20), (4, .string ⟨#[]⟩)] ∧ blockIs w' w.heap.size 25 #[.int .i64 fe, .int .i64 fa] ∧ Below w.heap.size w2 w') (by kernel_rfl) ?_ ?_
    · intro Q' hR hQp
      have hb0 : Below w2.heap.size w2 w2.drew := by (repeat' (first | with_reducible (first | exact Below.refl _ _ | assumption | refine Below.drew ?_ | refine Below_drewN ?_ _ | refine Below.alloc ?_ ?_ _ | refine Below.setCell ?_ ?_ _) | omega | (simp; done) | (simp; omega)))
      have hS : SC [(⟨tb, 0, none⟩, (.int .i64 fe)), (⟨tb, 1, none⟩, (.int .i64 fa))] w2.drew := hS0
      generalize w2.drew = wa at *
      have hGa := hG2.under hb0
      have hRa := hR2.under hb0
      refine wpAnyK_takes hQp hS [0,1] ?_
      iterate 2 (refine takeK_cons _ rfl (by kernel_rfl) (yields_value (by kernel_rfl) (by intro w0 hw0; have hw1 := hw0; simp only [SC] at hw1; first | (go_simp; done) | (go_simp; rfl))) ?_; simp only [Act.put, List.getElem_toArray, List.getElem_cons_succ, List.getElem_cons_zero, List.setIfInBounds_toArray, List.set_cons_succ, List.set_cons_zero])
      refine takeK_nil ?_
      obtain ⟨f1, f2⟩ := hGa.cells
      have hfl := hGa.lt
      have hbq := hb0.size
      clear hS
      refine wpAnyK_call (i := 2) rfl (by kernel_rfl) (by kernel_rfl) fun K2 hK2 => ?_
      go_simp
      go_wp2_with fail
      have hGc := (hGa.set 0 (.int .i64 fe)).set 1 (.int .i64 fa)
      simp only [List.setIfInBounds_toArray, List.set_cons_succ, List.set_cons_zero] at hGc
      have hRc := (hRa.setOther (a := ⟨w.heap.size, 0, none⟩) (show tb ≠ w.heap.size by omega) (.int .i64 fe)).setOther (a := ⟨w.heap.size, 1, none⟩) (show tb ≠ w.heap.size by omega) (.int .i64 fa)
      refine hK2 _ _ (fun _ => ⟨hRc.cells.1 0, hRc.cells.1 1, trivial⟩) ?_
      clear hK2
      refine wpAnyK_done (by kernel_rfl) ?_ _
      refine hR _ _ ?_
      iterate 1 apply Exists.intro
      refine ⟨?_, ⟨hGc, ((hb0.mono (by omega)).setCell (p := ⟨w.heap.size, 0, none⟩) (Nat.le_refl _) _).setCell (p := ⟨w.heap.size, 1, none⟩) (Nat.le_refl _) _⟩⟩
      simp only [puts, Act.put, List.setIfInBounds_toArray, List.set_cons_succ, List.set_cons_zero]
      rfl
    rintro a' w8 ⟨v20, rfl, hb8⟩
    simp only [puts, Act.put, List.setIfInBounds_toArray, List.set_cons_succ, List.set_cons_zero]
    obtain ⟨hGz, hbz⟩ := hb8
    obtain ⟨x1, x2⟩ := hGz.cells
    have hBz := hb2.trans hbz
    clear hS0
    --CUT3
    go_wp2_with fail
    with_reducible refine bodyPost_ret (v := .tuple #[.string ⟨#[]⟩, .agg #[.int .i64 fe, .int .i64 fa]]) ?ra1 ?rb1 ?rc1
    case ra1 => simp [results, Tryd.results12, go_sem, x1]
    case rb1 => rfl
    case rc1 => rw [HT.out, HFW.out]; exact ⟨rfl, hBz⟩
  subst hfe
  obtain ⟨hpt, h00, hl12⟩ := HPG.out rfl
  obtain rfl : fa = 0 := by have := congrArg Prod.snd h00; exact this
  have HPT := Lib.hid hpt
  clear hpt h00 HPB HPG hR2
  --CUT4
  go_wp2
  clear r1 r2
  --CUT5
  go_loopw [7, 23] (fun sv iv wr => ∃ (i : Nat) (T : ByteArray), sv = .string T ∧ iv = .int .i64 (i : Int) ∧ i ≤ l.length ∧ Hid (T.data.toList = textOf (l.take i)) ∧ T.size ≤ i * 1000000000000 ∧ blockIs wr w.heap.size 25 #[.int .i64 0, .int .i64 0] ∧ Below w.heap.size w wr) (fun _ iv _ => l.length - (intOf iv).toNat)
  case atStart => exact ⟨0, ⟨#[]⟩, rfl, rfl, Nat.zero_le _, Lib.hid rfl, Nat.zero_le _, hG2, hb2⟩
  case round =>
    clear hG2 hb2
    obtain ⟨i, T, rfl, rfl, hi, HT, hTs, hG, hbw⟩ := hrel
    rename World => wo
    by_cases hlt : i < l.length
    case neg =>
      have b1 : ¬ (i : Int) < (l.length : Int) := by omega
      have HTT : Hid (T = ⟨(textOf l).toArray⟩) := Lib.hid (str_ext (by rw [HT.out, List.take_of_length_le (by omega)]))
      have hGz := (hG.set 0 (.int .i64 0)).set 1 (.int .i64 0)
      simp only [List.setIfInBounds_toArray, List.set_cons_succ, List.set_cons_zero] at hGz
      have hBz := (hbw.setCell (p := ⟨w.heap.size, 0, none⟩) (Nat.le_refl _) (.int .i64 0)).setCell (p := ⟨w.heap.size, 1, none⟩) (Nat.le_refl _) (.int .i64 0)
      obtain ⟨f1, f2⟩ := hG.cells
      have hfl := hG.lt
      obtain ⟨x1, x2⟩ := hGz.cells
      --CUT6
      go_wp2_with fail
      with_reducible refine bodyPost_ret (v := .tuple #[.string T, .agg #[.int .i64 0, .int .i64 0]]) ?ra1 ?rb1 ?rc1
      case ra1 => simp [results, Tryd.results12, go_sem, x1]
      case rb1 => rfl
      case rc1 => rw [HPT.out, HFW.out, HTT.out]; exact ⟨rfl, hBz⟩
    have b1 : (i : Int) < (l.length : Int) := by omega
    have b0 : (0 : Int) ≤ (i : Int) := by omega
    obtain ⟨f, hf⟩ : ∃ f, l[i]? = some f := ⟨_, List.getElem?_eq_getElem hlt⟩
    obtain ⟨hlv, hln⟩ := hl f (List.mem_of_getElem? hf)
    have HTK := Lib.hid (text_take hf)
    obtain ⟨fg, fo, rfl, _, hfgl, cs, ⟨va, vc, na, nc, rfl, hI1, hI2, hvr, hnr⟩, hce⟩ := (h.below hbw).get hf
    have v0 := hce 0 _ rfl
    have v1 := hce 1 _ rfl
    have v2 := hce 2 _ rfl
    have v3 := hce 3 _ rfl
    simp only [show flowS.size = 4 from rfl, Nat.add_zero] at v0 v1 v2 v3
    have hi64 : ∀ {ok : Nat → Prop} {w : World} {a : Option Addr} {c : Nat} {m : List Int}, rowRep intS ok w a c m → ∀ x ∈ m, I64 x := fun hr x hx => by
      obtain ⟨j, hj, rfl⟩ := List.getElem_of_mem hx
      obtain ⟨_, _, _, _, _, cs, ⟨_, hI⟩, _⟩ := hr.get (List.getElem?_eq_getElem hj)
      exact hI
    have HI3 := Lib.hid (hi64 hvr)
    have HI4 := Lib.hid (hi64 hnr)
    have hx4 := bel_new wo (.cells #[.int .i64 f.src, .int .i64 f.dst, .slice va f.via.length vc, .slice na f.no.length nc] 40)
    have hX4 : blockIs (wo.alloc (.cells #[.int .i64 f.src, .int .i64 f.dst, .slice va f.via.length vc, .slice na f.no.length nc] 40)) wo.heap.size 40 #[.int .i64 f.src, .int .i64 f.dst, .slice va f.via.length vc, .slice na f.no.length nc] := blockIs.new rfl
    have hG4 := hG.under hx4
    have hb4 := hbw.trans (hx4.mono (by have := hbw.size; omega))
    have hvr4 := hvr.below hx4
    have hnr4 := hnr.below hx4
    have htab4 := tab_below htab hb4
    clear hce hf hG hbw hvr hnr hx4 hi64
    --CUT7
    go_upto_region 8 with fail
    clear v0 v1 v2 v3 b1 b0
    generalize wo.alloc _ = w4 at *
    generalize wo.heap.size = xb at *
    have hS1 : SC [(⟨xb, 0, none⟩, (.int .i64 f.src)), (⟨xb, 1, none⟩, (.int .i64 f.dst)), (⟨xb, 2, none⟩, (.slice va f.via.length vc)), (⟨xb, 3, none⟩, (.slice na f.no.length nc))] w4 := ⟨hX4.cells.1 0, hX4.cells.1 1, hX4.cells.1 2, hX4.cells.1 3, trivial⟩
    have hS0 : SC [(⟨xb, 0, none⟩, (.int .i64 f.src)), (⟨xb, 1, none⟩, (.int .i64 f.dst)), (⟨xb, 2, none⟩, (.slice va f.via.length vc)), (⟨xb, 3, none⟩, (.slice na f.no.length nc))] w4.drew := hS1
    have y1 : (itoaB f.src).size ≤ 21 := by rw [← str_len, itoaB_list]; exact Lib.itoa_length_le f.src hI1.1 hI1.2
    have y2 : (itoaB f.dst).size ≤ 21 := by rw [← str_len, itoaB_list]; exact Lib.itoa_length_le f.dst hI2.1 hI2.2
    have z1 : ¬ 9223372036854775807 < T.size + (itoaB f.src).size := by omega
    have z2 : ¬ 9223372036854775807 < T.size + (itoaB f.src).size + 1 := by omega
    have z2b : ¬ 9223372036854775807 < (T ++ itoaB f.src : ByteArray).size + 1 := by rw [ByteArray.size_append]; exact z2
    have z3 : ¬ 9223372036854775807 < T.size + (itoaB f.src).size + 1 + (itoaB f.dst).size := by omega
    have z3b : ¬ 9223372036854775807 < (T ++ itoaB f.src ++ ⟨#[62]⟩ : ByteArray).size + (itoaB f.dst).size := by rw [ByteArray.size_append, ByteArray.size_append]; exact z3
    --CUT8
    refine wp_region_to (SC [(⟨xb, 0, none⟩, (.int .i64 f.src)), (⟨xb, 1, none⟩, (.int .i64 f.dst)), (⟨xb, 2, none⟩, (.slice va f.via.length vc)), (⟨xb, 3, none⟩, (.slice na f.no.length nc))]) 99 (fun a0 a' w' => ∃ v27 v28 v29 v30 v31 v32 v33 v34 v35 v36, a' = puts a0 [(27, v27), (28, v28), (29, v29), (30, v30), (31, v31), (32, v32), (33, v33), (34, v34), (35, v35), (36, v36), (7, .string (T ++ itoaB f.src ++ ⟨#[62]⟩ ++ itoaB f.dst))] ∧ Below w4.heap.size w4 w') (by kernel_rfl) ?_ ?_
    · intro Q' hR hQp
      have hb0 : Below w4.heap.size w4 w4.drew := by (repeat' (first | with_reducible (first | exact Below.refl _ _ | assumption | refine Below.drew ?_ | refine Below_drewN ?_ _ | refine Below.alloc ?_ ?_ _ | refine Below.setCell ?_ ?_ _) | omega | (simp; done) | (simp; omega)))
      have hS : SC [(⟨xb, 0, none⟩, (.int .i64 f.src)), (⟨xb, 1, none⟩, (.int .i64 f.dst)), (⟨xb, 2, none⟩, (.slice va f.via.length vc)), (⟨xb, 3, none⟩, (.slice na f.no.length nc))] w4.drew := hS0
      generalize w4.drew = wa at *
      refine wpAnyK_takes hQp hS [0,1,6,2,7] ?_
      iterate 5 (refine takeK_cons _ rfl (by kernel_rfl) (yields_value (by kernel_rfl) (by intro w0 hw0; have hw1 := hw0; simp only [SC] at hw1; first | (go_simp; done) | (go_simp; rfl))) ?_; simp only [Act.put, List.getElem_toArray, List.getElem_cons_succ, List.getElem_cons_zero, List.setIfInBounds_toArray, List.set_cons_succ, List.set_cons_zero])
      refine takeK_nil ?_
      --CUT9
      clear hS
      refine wpAnyK_call (i := 3) rfl (by kernel_rfl) (by kernel_rfl) fun K3 hK3 => ?_
      go_simp
      go_wp2_with fail
      refine (Tryd.strconv_Itoa f.src hI1.1 hI1.2 wa (tab_below htab4 hb0)).mono ?_
      rintro e wb ⟨rfl, k9, os, rfl⟩
      have hb5 := hb0.trans ((grow_bel wa k9 os).mono hb0.size)
      generalize Sort.grow (wa.drewN k9) os = wb at *
      go_wp2_with fail
      rw [show (⟨(Lib.itoa f.src).toArray⟩ : ByteArray) = itoaB f.src from rfl]
      have hS : _ := SC.later hb5 hS1
      refine hK3 _ _ (fun _ => hS) ?_
      clear hK3
      refine wpAnyK_takes hQp hS [4,5] ?_
      iterate 2 (refine takeK_cons _ rfl (by kernel_rfl) (yields_value (by kernel_rfl) (by intro w0 hw0; have hw1 := hw0; simp only [SC] at hw1; first | (go_simp; done) | (go_simp; rfl))) ?_; simp only [Act.put, List.getElem_toArray, List.getElem_cons_succ, List.getElem_cons_zero, List.setIfInBounds_toArray, List.set_cons_succ, List.set_cons_zero])
      refine takeK_nil ?_
      --CUT10
      clear hS
      refine wpAnyK_call (i := 8) rfl (by kernel_rfl) (by kernel_rfl) fun K8 hK8 => ?_
      go_simp
      go_wp2_with fail
      refine (Tryd.strconv_Itoa f.dst hI2.1 hI2.2 wb (tab_below htab4 hb5)).mono ?_
      rintro e wc ⟨rfl, k8, os, rfl⟩
      have hb6 := hb5.trans ((grow_bel wb k8 os).mono hb5.size)
      generalize Sort.grow (wb.drewN k8) os = wc at *
      go_wp2_with fail
      rw [show (⟨(Lib.itoa f.dst).toArray⟩ : ByteArray) = itoaB f.dst from rfl]
      have hS : _ := SC.later hb6 hS1
      refine hK8 _ _ (fun _ => hS) ?_
      clear hK8
      refine wpAnyK_takes hQp hS [9,10] ?_
      iterate 2 (refine takeK_cons _ rfl (by kernel_rfl) (yields_value (by kernel_rfl) (by intro w0 hw0; have hw1 := hw0; simp only [SC] at hw1; first | (go_simp; done) | (go_simp; rfl))) ?_; simp only [Act.put, List.getElem_toArray, List.getElem_cons_succ, List.getElem_cons_zero, List.setIfInBounds_toArray, List.set_cons_succ, List.set_cons_zero])
      refine takeK_nil ?_
      refine wpAnyK_done (by kernel_rfl) ?_ _
      refine hR _ _ ?_
      iterate 10 apply Exists.intro
      refine ⟨?_, hb6⟩
      simp only [puts, Act.put, List.setIfInBounds_toArray, List.set_cons_succ, List.set_cons_zero]
      rfl
    rintro a' w8 ⟨v27, v28, v29, v30, v31, v32, v33, v34, v35, v36, rfl, hb8⟩
    simp only [puts, Act.put, List.setIfInBounds_toArray, List.set_cons_succ, List.set_cons_zero]
    rename World => w5
    have HTA : Hid ((T ++ itoaB f.src ++ ⟨#[62]⟩ ++ itoaB f.dst : ByteArray).data.toList = textOf (l.take i) ++ (Lib.itoa f.src ++ [62] ++ Lib.itoa f.dst)) := Lib.hid (by
      rw [str_app, str_app, str_app, HT.out, itoaB_list, itoaB_list]
      simp)
    have hTA : (T ++ itoaB f.src ++ ⟨#[62]⟩ ++ itoaB f.dst : ByteArray).size ≤ i * 1000000000000 + 43 := by
      rw [ByteArray.size_append, ByteArray.size_append, ByteArray.size_append]
      show T.size + (itoaB f.src).size + 1 + (itoaB f.dst).size ≤ _
      omega
    generalize (T ++ itoaB f.src ++ ⟨#[62]⟩ ++ itoaB f.dst : ByteArray) = TA at *
    have hX5 := hX4.under hb8
    have hG5 := hG4.under hb8
    have hvr5 := hvr4.below hb8
    have hnr5 := hnr4.below hb8
    have hb5 := hb4.trans (hb8.mono hb4.size)
    clear hS0 hS1 z1 z2 z2b z3 z3b y1 y2 hX4 hG4 hvr4 hnr4 htab4 hb8 hb4
    obtain ⟨x1, x2⟩ := hX5.cells
    have hxl := hX5.lt
    --CUT11
    go_upto_region 10 with fail
    clear x1 x2 hxl
    go_loopw [7, 40] (fun sv jv wr => ∃ (j : Nat) (TB : ByteArray), sv = .string TB ∧ jv = .int .i64 (j : Int) ∧ j ≤ f.via.length ∧ Hid (TB.data.toList = TA.data.toList ++ joinW viaW (f.via.take j)) ∧ Below w5.heap.size w5 wr) (fun _ jv _ => f.via.length - (intOf jv).toNat)
    case atStart => exact ⟨0, TA, rfl, rfl, Nat.zero_le _, Lib.hid (by rw [List.take_zero]; simp [joinW]), Below.refl _ _⟩
    case round =>
      obtain ⟨j, TB, rfl, rfl, hj, HTB, hbj⟩ := hrel
      rename World => wj
      have hTB : TB.size ≤ TA.size + 5 + 22 * j := by
        have h9 := congrArg List.length HTB.out
        rw [List.length_append, str_len, str_len] at h9
        have h8 := joinW_len (w := viaW) (m := f.via.take j) (fun x hx => HI3.out x (List.mem_of_mem_take hx))
        rw [List.length_take] at h8
        have h7 : (viaW).length = 5 := rfl
        omega
      by_cases hjl : j < f.via.length
      case pos =>
        have d1 : (j : Int) < (f.via.length : Int) := by omega
        have d0 : (0 : Int) ≤ (j : Int) := by omega
        obtain ⟨x, hx⟩ : ∃ x, f.via[j]? = some x := ⟨_, List.getElem?_eq_getElem hjl⟩
        have HJT := Lib.hid (joinW_take (w := viaW) hx)
        have hX6 := hX5.under hbj
        have hb6 := hb5.trans (hbj.mono hb5.size)
        have htab6 := tab_below htab hb6
        obtain ⟨xg, xo, hxe, _, hxl, cs, ⟨rfl, hI⟩, hce⟩ := (hvr5.below hbj).get hx
        obtain rfl := hxe
        have q0 := hce 0 _ rfl
        rw [show intS.size = 1 from rfl, Nat.add_zero, Nat.mul_one] at q0
        have hS1 : SC [(⟨xb, 0, none⟩, (.int .i64 f.src)), (⟨xb, 1, none⟩, (.int .i64 f.dst)), (⟨xb, 2, none⟩, (.slice (some ⟨xg, xo, none⟩) f.via.length vc)), (⟨xb, 3, none⟩, (.slice na f.no.length nc))] wj := ⟨hX6.cells.1 0, hX6.cells.1 1, hX6.cells.1 2, hX6.cells.1 3, trivial⟩
        have hS0 : SC [(⟨xb, 0, none⟩, (.int .i64 f.src)), (⟨xb, 1, none⟩, (.int .i64 f.dst)), (⟨xb, 2, none⟩, (.slice (some ⟨xg, xo, none⟩) f.via.length vc)), (⟨xb, 3, none⟩, (.slice na f.no.length nc))] wj.drew := hS1
        have y1 : (itoaB x).size ≤ 21 := by rw [← str_len, itoaB_list]; exact Lib.itoa_length_le x hI.1 hI.2
        clear hce hx
        --CUTL11
        go_upto_region 12 with fail
        clear q0 d1
        by_cases hj0 : j = 0
        case pos =>
          have m4 : min (j : Int) 1 = 0 := by omega
          have HJ2 : Hid (joinW viaW (f.via.take (j + 1)) = joinW viaW (f.via.take j) ++ (viaW ++ Lib.itoa x)) := Lib.hid (by rw [HJT.out, if_pos hj0])
          have z1 : ¬ 9223372036854775807 < TB.size + 5 := by omega
          have z2 : ¬ 9223372036854775807 < TB.size + 5 + (itoaB x).size := by omega
          have z2b : ¬ 9223372036854775807 < (TB ++ ⟨#[32, 118, 105, 97, 32]⟩ : ByteArray).size + (itoaB x).size := by rw [ByteArray.size_append]; exact z2
          clear hj0
          --CUTB11
          refine wp_region_to (SC [(⟨xb, 0, none⟩, (.int .i64 f.src)), (⟨xb, 1, none⟩, (.int .i64 f.dst)), (⟨xb, 2, none⟩, (.slice (some ⟨xg, xo, none⟩) f.via.length vc)), (⟨xb, 3, none⟩, (.slice na f.no.length nc))]) 99 (fun a0 a' w' => ∃ v45 v46 v47 v48 v49 v50 v51 v52 v53 v54, a' = puts a0 [(45, v45), (46, v46), (47, v47), (48, v48), (49, v49), (50, v50), (51, v51), (52, v52), (53, v53), (54, v54), (7, .string (TB ++ ⟨#[32, 118, 105, 97, 32]⟩ ++ itoaB x))] ∧ Below wj.heap.size wj w') (by kernel_rfl) ?_ ?_
          · intro Q' hR hQp
            have hb0 : Below wj.heap.size wj wj.drew := by (repeat' (first | with_reducible (first | exact Below.refl _ _ | assumption | refine Below.drew ?_ | refine Below_drewN ?_ _ | refine Below.alloc ?_ ?_ _ | refine Below.setCell ?_ ?_ _) | omega | (simp; done) | (simp; omega)))
            have hS : SC [(⟨xb, 0, none⟩, (.int .i64 f.src)), (⟨xb, 1, none⟩, (.int .i64 f.dst)), (⟨xb, 2, none⟩, (.slice (some ⟨xg, xo, none⟩) f.via.length vc)), (⟨xb, 3, none⟩, (.slice na f.no.length nc))] wj.drew := hS0
            generalize wj.drew = wa at *
            refine wpAnyK_takes hQp hS [0,2,7,3] ?_
            iterate 4 (refine takeK_cons _ rfl (by kernel_rfl) (yields_value (by kernel_rfl) (by intro w0 hw0; have hw1 := hw0; simp only [SC] at hw1; first | (go_simp; done) | (go_simp; rfl))) ?_; simp only [Act.put, List.getElem_toArray, List.getElem_cons_succ, List.getElem_cons_zero, List.setIfInBounds_toArray, List.set_cons_succ, List.set_cons_zero])
            refine takeK_nil ?_
            --CUTC11
            refine wpAnyK_two (i := 1) (j := 8) rfl rfl (by kernel_rfl) (by kernel_rfl) (by kernel_rfl) (fun K1 hK1 => ?_) (fun K8 hK8 => ?_)
            · skip
              go_simp
              go_wp2_with fail
              --CUTD11
              have hbA := hb0.trans ((bel_new wa (.cells #[.string ⟨#[32, 118, 105, 97, 32]⟩, .string ⟨#[44]⟩] 9)).mono hb0.size)
              have hE : blockIs (wa.alloc (.cells #[.string ⟨#[32, 118, 105, 97, 32]⟩, .string ⟨#[44]⟩] 9)) wa.heap.size 9 #[.string ⟨#[32, 118, 105, 97, 32]⟩, .string ⟨#[44]⟩] := blockIs.new rfl
              have hS : _ := SC.later hbA hS1
              refine hK1 _ _ (fun _ => hS) ?_
              clear hK1
              generalize wa.alloc _ = wb at *
              generalize wa.heap.size = eb at *
              refine wpAnyK_takes hQp hS [4] ?_
              iterate 1 (refine takeK_cons _ rfl (by kernel_rfl) (yields_value (by kernel_rfl) (by intro w0 hw0; have hw1 := hw0; simp only [SC] at hw1; first | (go_simp; done) | (go_simp; rfl))) ?_; simp only [Act.put, List.getElem_toArray, List.getElem_cons_succ, List.getElem_cons_zero, List.setIfInBounds_toArray, List.set_cons_succ, List.set_cons_zero])
              refine takeK_nil ?_
              --CUTE11
              refine wpAnyK_two (i := 5) (j := 8) rfl rfl (by kernel_rfl) (by kernel_rfl) (by kernel_rfl) (fun K5 hK5 => ?_) (fun K8 hK8 => ?_)
              · skip
                obtain ⟨g1, g2⟩ := hE.cells
                have hgl := hE.lt
                go_simp
                go_wp2_with fail
                --CUTF11
                have hS : _ := SC.later hbA hS1
                refine hK5 _ _ (fun _ => hS) ?_
                clear hK5
                refine wpAnyK_takes hQp hS [6] ?_
                iterate 1 (refine takeK_cons _ rfl (by kernel_rfl) (yields_value (by kernel_rfl) (by intro w0 hw0; have hw1 := hw0; simp only [SC] at hw1; first | (go_simp; done) | (go_simp; rfl))) ?_; simp only [Act.put, List.getElem_toArray, List.getElem_cons_succ, List.getElem_cons_zero, List.setIfInBounds_toArray, List.set_cons_succ, List.set_cons_zero])
                refine takeK_nil ?_
                clear hS
                refine wpAnyK_call (i := 8) rfl (by kernel_rfl) (by kernel_rfl) fun K8 hK8 => ?_
                go_simp
                go_wp2_with fail
                refine (Tryd.strconv_Itoa x hI.1 hI.2 wb (tab_below htab6 hbA)).mono ?_
                rintro e wq ⟨rfl, k9, os, rfl⟩
                have hbC := grow_bel wb k9 os
                have hbB := hbA.trans (hbC.mono hbA.size)
                generalize Sort.grow (wb.drewN k9) os = wc at *
                go_wp2_with fail
                rw [show (⟨(Lib.itoa x).toArray⟩ : ByteArray) = itoaB x from rfl]
                have hS : _ := SC.later hbB hS1
                refine hK8 _ _ (fun _ => hS) ?_
                clear hK8
                refine wpAnyK_takes hQp hS [9,10] ?_
                iterate 2 (refine takeK_cons _ rfl (by kernel_rfl) (yields_value (by kernel_rfl) (by intro w0 hw0; have hw1 := hw0; simp only [SC] at hw1; first | (go_simp; done) | (go_simp; rfl))) ?_; simp only [Act.put, List.getElem_toArray, List.getElem_cons_succ, List.getElem_cons_zero, List.setIfInBounds_toArray, List.set_cons_succ, List.set_cons_zero])
                refine takeK_nil ?_
                refine wpAnyK_done (by kernel_rfl) ?_ _
                refine hR _ _ ?_
                iterate 10 apply Exists.intro
                refine ⟨?_, hbB⟩
                simp only [puts, Act.put, List.setIfInBounds_toArray, List.set_cons_succ, List.set_cons_zero]
                rfl
              · skip
                go_simp
                go_wp2_with fail
                refine (Tryd.strconv_Itoa x hI.1 hI.2 wb (tab_below htab6 hbA)).mono ?_
                rintro e wq ⟨rfl, k9, os, rfl⟩
                have hbC := grow_bel wb k9 os
                have hbB := hbA.trans (hbC.mono hbA.size)
                generalize Sort.grow (wb.drewN k9) os = wc at *
                go_wp2_with fail
                rw [show (⟨(Lib.itoa x).toArray⟩ : ByteArray) = itoaB x from rfl]
                have hS : _ := SC.later hbB hS1
                refine hK8 _ _ (fun _ => hS) ?_
                clear hK8
                obtain ⟨g1, g2⟩ := (hE.under hbC).cells
                have hgl := (hE.under hbC).lt
                clear hS
                refine wpAnyK_call (i := 5) rfl (by kernel_rfl) (by kernel_rfl) fun K5 hK5 => ?_
                go_simp
                go_wp2_with fail
                have hS : _ := SC.later hbB hS1
                refine hK5 _ _ (fun _ => hS) ?_
                clear hK5
                refine wpAnyK_takes hQp hS [6,9,10] ?_
                iterate 3 (refine takeK_cons _ rfl (by kernel_rfl) (yields_value (by kernel_rfl) (by intro w0 hw0; have hw1 := hw0; simp only [SC] at hw1; first | (go_simp; done) | (go_simp; rfl))) ?_; simp only [Act.put, List.getElem_toArray, List.getElem_cons_succ, List.getElem_cons_zero, List.setIfInBounds_toArray, List.set_cons_succ, List.set_cons_zero])
                refine takeK_nil ?_
                refine wpAnyK_done (by kernel_rfl) ?_ _
                refine hR _ _ ?_
                iterate 10 apply Exists.intro
                refine ⟨?_, hbB⟩
                simp only [puts, Act.put, List.setIfInBounds_toArray, List.set_cons_succ, List.set_cons_zero]
                rfl
            · skip
              go_simp
              go_wp2_with fail
              refine (Tryd.strconv_Itoa x hI.1 hI.2 wa (tab_below htab6 hb0)).mono ?_
              rintro e wq ⟨rfl, k9, os, rfl⟩
              have hbC := grow_bel wa k9 os
              have hbA := hb0.trans (hbC.mono hb0.size)
              generalize Sort.grow (wa.drewN k9) os = wb at *
              go_wp2_with fail
              rw [show (⟨(Lib.itoa x).toArray⟩ : ByteArray) = itoaB x from rfl]
              have hS : _ := SC.later hbA hS1
              refine hK8 _ _ (fun _ => hS) ?_
              clear hK8
              clear hS
              refine wpAnyK_call (i := 1) rfl (by kernel_rfl) (by kernel_rfl) fun K1 hK1 => ?_
              go_simp
              go_wp2_with fail
              --CUTG11
              have hbB := hbA.trans ((bel_new wb (.cells #[.string ⟨#[32, 118, 105, 97, 32]⟩, .string ⟨#[44]⟩] 9)).mono hbA.size)
              have hE : blockIs (wb.alloc (.cells #[.string ⟨#[32, 118, 105, 97, 32]⟩, .string ⟨#[44]⟩] 9)) wb.heap.size 9 #[.string ⟨#[32, 118, 105, 97, 32]⟩, .string ⟨#[44]⟩] := blockIs.new rfl
              have hS : _ := SC.later hbB hS1
              refine hK1 _ _ (fun _ => hS) ?_
              clear hK1
              generalize wb.alloc _ = wc at *
              generalize wb.heap.size = eb at *
              refine wpAnyK_takes hQp hS [4] ?_
              iterate 1 (refine takeK_cons _ rfl (by kernel_rfl) (yields_value (by kernel_rfl) (by intro w0 hw0; have hw1 := hw0; simp only [SC] at hw1; first | (go_simp; done) | (go_simp; rfl))) ?_; simp only [Act.put, List.getElem_toArray, List.getElem_cons_succ, List.getElem_cons_zero, List.setIfInBounds_toArray, List.set_cons_succ, List.set_cons_zero])
              refine takeK_nil ?_
              obtain ⟨g1, g2⟩ := hE.cells
              have hgl := hE.lt
              clear hS
              refine wpAnyK_call (i := 5) rfl (by kernel_rfl) (by kernel_rfl) fun K5 hK5 => ?_
              go_simp
              go_wp2_with fail
              have hS : _ := SC.later hbB hS1
              refine hK5 _ _ (fun _ => hS) ?_
              clear hK5
              refine wpAnyK_takes hQp hS [6,9,10] ?_
              iterate 3 (refine takeK_cons _ rfl (by kernel_rfl) (yields_value (by kernel_rfl) (by intro w0 hw0; have hw1 := hw0; simp only [SC] at hw1; first | (go_simp; done) | (go_simp; rfl))) ?_; simp only [Act.put, List.getElem_toArray, List.getElem_cons_succ, List.getElem_cons_zero, List.setIfInBounds_toArray, List.set_cons_succ, List.set_cons_zero])
              refine takeK_nil ?_
              refine wpAnyK_done (by kernel_rfl) ?_ _
              refine hR _ _ ?_
              iterate 10 apply Exists.intro
              refine ⟨?_, hbB⟩
              simp only [puts, Act.put, List.setIfInBounds_toArray, List.set_cons_succ, List.set_cons_zero]
              rfl
          rintro a' w8 ⟨v45, v46, v47, v48, v49, v50, v51, v52, v53, v54, rfl, hb8⟩
          simp only [puts, Act.put, List.setIfInBounds_toArray, List.set_cons_succ, List.set_cons_zero]
          rename World => w9
          have HTN : Hid ((TB ++ ⟨#[32, 118, 105, 97, 32]⟩ ++ itoaB x : ByteArray).data.toList = TA.data.toList ++ joinW viaW (f.via.take (j + 1))) := Lib.hid (by
            rw [str_app, str_app, HTB.out, itoaB_list, HJ2.out, List.append_assoc, List.append_assoc]
            all_goals rfl)
          have hb9 := hbj.trans (hb8.mono hbj.size)
          clear hS0 hS1
          go_wp2
          case roundEnd =>
            go_roundw
            case rel => exact ⟨j + 1, _, rfl, by go_num, by omega, HTN, hb9⟩
            case measure => simp [intOf] <;> omega
        case neg =>
          have m4 : min (j : Int) 1 = 1 := by omega
          have HJ2 : Hid (joinW viaW (f.via.take (j + 1)) = joinW viaW (f.via.take j) ++ ([44] ++ Lib.itoa x)) := Lib.hid (by rw [HJT.out, if_neg hj0])
          have z1 : ¬ 9223372036854775807 < TB.size + 1 := by omega
          have z2 : ¬ 9223372036854775807 < TB.size + 1 + (itoaB x).size := by omega
          have z2b : ¬ 9223372036854775807 < (TB ++ ⟨#[44]⟩ : ByteArray).size + (itoaB x).size := by rw [ByteArray.size_append]; exact z2
          clear hj0
          --CUTB12
          refine wp_region_to (SC [(⟨xb, 0, none⟩, (.int .i64 f.src)), (⟨xb, 1, none⟩, (.int .i64 f.dst)), (⟨xb, 2, none⟩, (.slice (some ⟨xg, xo, none⟩) f.via.length vc)), (⟨xb, 3, none⟩, (.slice na f.no.length nc))]) 99 (fun a0 a' w' => ∃ v45 v46 v47 v48 v49 v50 v51 v52 v53 v54, a' = puts a0 [(45, v45), (46, v46), (47, v47), (48, v48), (49, v49), (50, v50), (51, v51), (52, v52), (53, v53), (54, v54), (7, .string (TB ++ ⟨#[44]⟩ ++ itoaB x))] ∧ Below wj.heap.size wj w') (by kernel_rfl) ?_ ?_
          · intro Q' hR hQp
            have hb0 : Below wj.heap.size wj wj.drew := by (repeat' (first | with_reducible (first | exact Below.refl _ _ | assumption | refine Below.drew ?_ | refine Below_drewN ?_ _ | refine Below.alloc ?_ ?_ _ | refine Below.setCell ?_ ?_ _) | omega | (simp; done) | (simp; omega)))
            have hS : SC [(⟨xb, 0, none⟩, (.int .i64 f.src)), (⟨xb, 1, none⟩, (.int .i64 f.dst)), (⟨xb, 2, none⟩, (.slice (some ⟨xg, xo, none⟩) f.via.length vc)), (⟨xb, 3, none⟩, (.slice na f.no.length nc))] wj.drew := hS0
            generalize wj.drew = wa at *
            refine wpAnyK_takes hQp hS [0,2,7,3] ?_
            iterate 4 (refine takeK_cons _ rfl (by kernel_rfl) (yields_value (by kernel_rfl) (by intro w0 hw0; have hw1 := hw0; simp only [SC] at hw1; first | (go_simp; done) | (go_simp; rfl))) ?_; simp only [Act.put, List.getElem_toArray, List.getElem_cons_succ, List.getElem_cons_zero, List.setIfInBounds_toArray, List.set_cons_succ, List.set_cons_zero])
            refine takeK_nil ?_
            --CUTC12
            refine wpAnyK_two (i := 1) (j := 8) rfl rfl (by kernel_rfl) (by kernel_rfl) (by kernel_rfl) (fun K1 hK1 => ?_) (fun K8 hK8 => ?_)
            · skip
              go_simp
              go_wp2_with fail
              --CUTD12
              have hbA := hb0.trans ((bel_new wa (.cells #[.string ⟨#[32, 118, 105, 97, 32]⟩, .string ⟨#[44]⟩] 9)).mono hb0.size)
              have hE : blockIs (wa.alloc (.cells #[.string ⟨#[32, 118, 105, 97, 32]⟩, .string ⟨#[44]⟩] 9)) wa.heap.size 9 #[.string ⟨#[32, 118, 105, 97, 32]⟩, .string ⟨#[44]⟩] := blockIs.new rfl
              have hS : _ := SC.later hbA hS1
              refine hK1 _ _ (fun _ => hS) ?_
              clear hK1
              generalize wa.alloc _ = wb at *
              generalize wa.heap.size = eb at *
              refine wpAnyK_takes hQp hS [4] ?_
              iterate 1 (refine takeK_cons _ rfl (by kernel_rfl) (yields_value (by kernel_rfl) (by intro w0 hw0; have hw1 := hw0; simp only [SC] at hw1; first | (go_simp; done) | (go_simp; rfl))) ?_; simp only [Act.put, List.getElem_toArray, List.getElem_cons_succ, List.getElem_cons_zero, List.setIfInBounds_toArray, List.set_cons_succ, List.set_cons_zero])
              refine takeK_nil ?_
              --CUTE12
              refine wpAnyK_two (i := 5) (j := 8) rfl rfl (by kernel_rfl) (by kernel_rfl) (by kernel_rfl) (fun K5 hK5 => ?_) (fun K8 hK8 => ?_)
              · skip
                obtain ⟨g1, g2⟩ := hE.cells
                have hgl := hE.lt
                go_simp
                go_wp2_with fail
                --CUTF12
                have hS : _ := SC.later hbA hS1
                refine hK5 _ _ (fun _ => hS) ?_
                clear hK5
                refine wpAnyK_takes hQp hS [6] ?_
                iterate 1 (refine takeK_cons _ rfl (by kernel_rfl) (yields_value (by kernel_rfl) (by intro w0 hw0; have hw1 := hw0; simp only [SC] at hw1; first | (go_simp; done) | (go_simp; rfl))) ?_; simp only [Act.put, List.getElem_toArray, List.getElem_cons_succ, List.getElem_cons_zero, List.setIfInBounds_toArray, List.set_cons_succ, List.set_cons_zero])
                refine takeK_nil ?_
                clear hS
                refine wpAnyK_call (i := 8) rfl (by kernel_rfl) (by kernel_rfl) fun K8 hK8 => ?_
                go_simp
                go_wp2_with fail
                refine (Tryd.strconv_Itoa x hI.1 hI.2 wb (tab_below htab6 hbA)).mono ?_
                rintro e wq ⟨rfl, k9, os, rfl⟩
                have hbC := grow_bel wb k9 os
                have hbB := hbA.trans (hbC.mono hbA.size)
                generalize Sort.grow (wb.drewN k9) os = wc at *
                go_wp2_with fail
                rw [show (⟨(Lib.itoa x).toArray⟩ : ByteArray) = itoaB x from rfl]
                have hS : _ := SC.later hbB hS1
                refine hK8 _ _ (fun _ => hS) ?_
                clear hK8
                refine wpAnyK_takes hQp hS [9,10] ?_
                iterate 2 (refine takeK_cons _ rfl (by kernel_rfl) (yields_value (by kernel_rfl) (by intro w0 hw0; have hw1 := hw0; simp only [SC] at hw1; first | (go_simp; done) | (go_simp; rfl))) ?_; simp only [Act.put, List.getElem_toArray, List.getElem_cons_succ, List.getElem_cons_zero, List.setIfInBounds_toArray, List.set_cons_succ, List.set_cons_zero])
                refine takeK_nil ?_
                refine wpAnyK_done (by kernel_rfl) ?_ _
                refine hR _ _ ?_
                iterate 10 apply Exists.intro
                refine ⟨?_, hbB⟩
                simp only [puts, Act.put, List.setIfInBounds_toArray, List.set_cons_succ, List.set_cons_zero]
                rfl
              · skip
                go_simp
                go_wp2_with fail
                refine (Tryd.strconv_Itoa x hI.1 hI.2 wb (tab_below htab6 hbA)).mono ?_
                rintro e wq ⟨rfl, k9, os, rfl⟩
                have hbC := grow_bel wb k9 os
                have hbB := hbA.trans (hbC.mono hbA.size)
                generalize Sort.grow (wb.drewN k9) os = wc at *
                go_wp2_with fail
                rw [show (⟨(Lib.itoa x).toArray⟩ : ByteArray) = itoaB x from rfl]
                have hS : _ := SC.later hbB hS1
                refine hK8 _ _ (fun _ => hS) ?_
                clear hK8
                obtain ⟨g1, g2⟩ := (hE.under hbC).cells
                have hgl := (hE.under hbC).lt
                clear hS
                refine wpAnyK_call (i := 5) rfl (by kernel_rfl) (by kernel_rfl) fun K5 hK5 => ?_
                go_simp
                go_wp2_with fail
                have hS : _ := SC.later hbB hS1
                refine hK5 _ _ (fun _ => hS) ?_
                clear hK5
                refine wpAnyK_takes hQp hS [6,9,10] ?_
                iterate 3 (refine takeK_cons _ rfl (by kernel_rfl) (yields_value (by kernel_rfl) (by intro w0 hw0; have hw1 := hw0; simp only [SC] at hw1; first | (go_simp; done) | (go_simp; rfl))) ?_; simp only [Act.put, List.getElem_toArray, List.getElem_cons_succ, List.getElem_cons_zero, List.setIfInBounds_toArray, List.set_cons_succ, List.set_cons_zero])
                refine takeK_nil ?_
                refine wpAnyK_done (by kernel_rfl) ?_ _
                refine hR _ _ ?_
                iterate 10 apply Exists.intro
                refine ⟨?_, hbB⟩
                simp only [puts, Act.put, List.setIfInBounds_toArray, List.set_cons_succ, List.set_cons_zero]
                rfl
            · skip
              go_simp
              go_wp2_with fail
              refine (Tryd.strconv_Itoa x hI.1 hI.2 wa (tab_below htab6 hb0)).mono ?_
              rintro e wq ⟨rfl, k9, os, rfl⟩
              have hbC := grow_bel wa k9 os
              have hbA := hb0.trans (hbC.mono hb0.size)
              generalize Sort.grow (wa.drewN k9) os = wb at *
              go_wp2_with fail
              rw [show (⟨(Lib.itoa x).toArray⟩ : ByteArray) = itoaB x from rfl]
              have hS : _ := SC.later hbA hS1
              refine hK8 _ _ (fun _ => hS) ?_
              clear hK8
              clear hS
              refine wpAnyK_call (i := 1) rfl (by kernel_rfl) (by kernel_rfl) fun K1 hK1 => ?_
              go_simp
              go_wp2_with fail
              --CUTG12
              have hbB := hbA.trans ((bel_new wb (.cells #[.string ⟨#[32, 118, 105, 97, 32]⟩, .string ⟨#[44]⟩] 9)).mono hbA.size)
              have hE : blockIs (wb.alloc (.cells #[.string ⟨#[32, 118, 105, 97, 32]⟩, .string ⟨#[44]⟩] 9)) wb.heap.size 9 #[.string ⟨#[32, 118, 105, 97, 32]⟩, .string ⟨#[44]⟩] := blockIs.new rfl
              have hS : _ := SC.later hbB hS1
              refine hK1 _ _ (fun _ => hS) ?_
              clear hK1
              generalize wb.alloc _ = wc at *
              generalize wb.heap.size = eb at *
              refine wpAnyK_takes hQp hS [4] ?_
              iterate 1 (refine takeK_cons _ rfl (by kernel_rfl) (yields_value (by kernel_rfl) (by intro w0 hw0; have hw1 := hw0; simp only [SC] at hw1; first | (go_simp; done) | (go_simp; rfl))) ?_; simp only [Act.put, List.getElem_toArray, List.getElem_cons_succ, List.getElem_cons_zero, List.setIfInBounds_toArray, List.set_cons_succ, List.set_cons_zero])
              refine takeK_nil ?_
              obtain ⟨g1, g2⟩ := hE.cells
              have hgl := hE.lt
              clear hS
              refine wpAnyK_call (i := 5) rfl (by kernel_rfl) (by kernel_rfl) fun K5 hK5 => ?_
              go_simp
              go_wp2_with fail
              have hS : _ := SC.later hbB hS1
              refine hK5 _ _ (fun _ => hS) ?_
              clear hK5
              refine wpAnyK_takes hQp hS [6,9,10] ?_
              iterate 3 (refine takeK_cons _ rfl (by kernel_rfl) (yields_value (by kernel_rfl) (by intro w0 hw0; have hw1 := hw0; simp only [SC] at hw1; first | (go_simp; done) | (go_simp; rfl))) ?_; simp only [Act.put, List.getElem_toArray, List.getElem_cons_succ, List.getElem_cons_zero, List.setIfInBounds_toArray, List.set_cons_succ, List.set_cons_zero])
              refine takeK_nil ?_
              refine wpAnyK_done (by kernel_rfl) ?_ _
              refine hR _ _ ?_
              iterate 10 apply Exists.intro
              refine ⟨?_, hbB⟩
              simp only [puts, Act.put, List.setIfInBounds_toArray, List.set_cons_succ, List.set_cons_zero]
              rfl
          rintro a' w8 ⟨v45, v46, v47, v48, v49, v50, v51, v52, v53, v54, rfl, hb8⟩
          simp only [puts, Act.put, List.setIfInBounds_toArray, List.set_cons_succ, List.set_cons_zero]
          rename World => w9
          have HTN : Hid ((TB ++ ⟨#[44]⟩ ++ itoaB x : ByteArray).data.toList = TA.data.toList ++ joinW viaW (f.via.take (j + 1))) := Lib.hid (by
            rw [str_app, str_app, HTB.out, itoaB_list, HJ2.out, List.append_assoc, List.append_assoc]
            all_goals rfl)
          have hb9 := hbj.trans (hb8.mono hbj.size)
          clear hS0 hS1
          go_wp2
          case roundEnd =>
            go_roundw
            case rel => exact ⟨j + 1, _, rfl, by go_num, by omega, HTN, hb9⟩
            case measure => simp [intOf] <;> omega
      have hjm : j = f.via.length := by omega
      have d1 : ¬ (j : Int) < (f.via.length : Int) := by omega
      have HTJ : Hid (TB.data.toList = TA.data.toList ++ joinW viaW f.via) := Lib.hid (by rw [HTB.out, List.take_of_length_le (by omega)])
      have hX6 := hX5.under hbj
      have hG6 := hG5.under hbj
      have hb6 := hb5.trans (hbj.mono hb5.size)
      have hnr6 := hnr5.below hbj
      have hTB2 : TB.size ≤ i * 1000000000000 + 43 + 5 + 22 * f.via.length := by omega
      clear hX5 hG5 hb5 HTB
      clear hnr5 hvr5 hTB
      obtain ⟨x1, x2⟩ := hX6.cells
      have hxl := hX6.lt
      clear hbj
      rename World => w6
      rename ByteArray => TB1
      have HTB1 := HTJ
      have hX5 := hX6
      have hG5 := hG6
      have hb5 := hb6
      clear d1 hjm hj HTJ hX6 hG6 hb6
      --CUTM
      go_upto_region 15 with fail
      clear x1 x2 hxl
      go_loopw [7, 59] (fun sv jv wr => ∃ (j : Nat) (TB : ByteArray), sv = .string TB ∧ jv = .int .i64 (j : Int) ∧ j ≤ f.no.length ∧ Hid (TB.data.toList = TB1.data.toList ++ joinW notW (f.no.take j)) ∧ Below w6.heap.size w6 wr) (fun _ jv _ => f.no.length - (intOf jv).toNat)
      case atStart => exact ⟨0, TB1, rfl, rfl, Nat.zero_le _, Lib.hid (by rw [List.take_zero]; simp [joinW]), Below.refl _ _⟩
      case round =>
        obtain ⟨j, TB, rfl, rfl, hj, HTB, hbj⟩ := hrel
        rename World => wj
        have hTB : TB.size ≤ TB1.size + 5 + 22 * j := by
          have h9 := congrArg List.length HTB.out
          rw [List.length_append, str_len, str_len] at h9
          have h8 := joinW_len (w := notW) (m := f.no.take j) (fun x hx => HI4.out x (List.mem_of_mem_take hx))
          rw [List.length_take] at h8
          have h7 : (notW).length = 5 := rfl
          omega
        by_cases hjl : j < f.no.length
        case pos =>
          have d1 : (j : Int) < (f.no.length : Int) := by omega
          have d0 : (0 : Int) ≤ (j : Int) := by omega
          obtain ⟨x, hx⟩ : ∃ x, f.no[j]? = some x := ⟨_, List.getElem?_eq_getElem hjl⟩
          have HJT := Lib.hid (joinW_take (w := notW) hx)
          have hX6 := hX5.under hbj
          have hb6 := hb5.trans (hbj.mono hb5.size)
          have htab6 := tab_below htab hb6
          obtain ⟨xg, xo, hxe, _, hxl, cs, ⟨rfl, hI⟩, hce⟩ := (hnr6.below hbj).get hx
          obtain rfl := hxe
          have q0 := hce 0 _ rfl
          rw [show intS.size = 1 from rfl, Nat.add_zero, Nat.mul_one] at q0
          have hS1 : SC [(⟨xb, 0, none⟩, (.int .i64 f.src)), (⟨xb, 1, none⟩, (.int .i64 f.dst)), (⟨xb, 2, none⟩, (.slice va f.via.length vc)), (⟨xb, 3, none⟩, (.slice (some ⟨xg, xo, none⟩) f.no.length nc))] wj := ⟨hX6.cells.1 0, hX6.cells.1 1, hX6.cells.1 2, hX6.cells.1 3, trivial⟩
          have hS0 : SC [(⟨xb, 0, none⟩, (.int .i64 f.src)), (⟨xb, 1, none⟩, (.int .i64 f.dst)), (⟨xb, 2, none⟩, (.slice va f.via.length vc)), (⟨xb, 3, none⟩, (.slice (some ⟨xg, xo, none⟩) f.no.length nc))] wj.drew := hS1
          have y1 : (itoaB x).size ≤ 21 := by rw [← str_len, itoaB_list]; exact Lib.itoa_length_le x hI.1 hI.2
          clear hce hx
          --CUTL12
          go_upto_region 17 with fail
          clear q0 d1
          by_cases hj0 : j = 0
          case pos =>
            have m4 : min (j : Int) 1 = 0 := by omega
            have HJ2 : Hid (joinW notW (f.no.take (j + 1)) = joinW notW (f.no.take j) ++ (notW ++ Lib.itoa x)) := Lib.hid (by rw [HJT.out, if_pos hj0])
            have z1 : ¬ 9223372036854775807 < TB.size + 5 := by omega
            have z2 : ¬ 9223372036854775807 < TB.size + 5 + (itoaB x).size := by omega
            have z2b : ¬ 9223372036854775807 < (TB ++ ⟨#[32, 110, 111, 116, 32]⟩ : ByteArray).size + (itoaB x).size := by rw [ByteArray.size_append]; exact z2
            clear hj0
            --CUTB21
            refine wp_region_to (SC [(⟨xb, 0, none⟩, (.int .i64 f.src)), (⟨xb, 1, none⟩, (.int .i64 f.dst)), (⟨xb, 2, none⟩, (.slice va f.via.length vc)), (⟨xb, 3, none⟩, (.slice (some ⟨xg, xo, none⟩) f.no.length nc))]) 99 (fun a0 a' w' => ∃ v64 v65 v66 v67 v68 v69 v70 v71 v72 v73, a' = puts a0 [(64, v64), (65, v65), (66, v66), (67, v67), (68, v68), (69, v69), (70, v70), (71, v71), (72, v72), (73, v73), (7, .string (TB ++ ⟨#[32, 110, 111, 116, 32]⟩ ++ itoaB x))] ∧ Below wj.heap.size wj w') (by kernel_rfl) ?_ ?_
            · intro Q' hR hQp
              have hb0 : Below wj.heap.size wj wj.drew := by (repeat' (first | with_reducible (first | exact Below.refl _ _ | assumption | refine Below.drew ?_ | refine Below_drewN ?_ _ | refine Below.alloc ?_ ?_ _ | refine Below.setCell ?_ ?_ _) | omega | (simp; done) | (simp; omega)))
              have hS : SC [(⟨xb, 0, none⟩, (.int .i64 f.src)), (⟨xb, 1, none⟩, (.int .i64 f.dst)), (⟨xb, 2, none⟩, (.slice va f.via.length vc)), (⟨xb, 3, none⟩, (.slice (some ⟨xg, xo, none⟩) f.no.length nc))] wj.drew := hS0
              generalize wj.drew = wa at *
              refine wpAnyK_takes hQp hS [0,2,7,3] ?_
              iterate 4 (refine takeK_cons _ rfl (by kernel_rfl) (yields_value (by kernel_rfl) (by intro w0 hw0; have hw1 := hw0; simp only [SC] at hw1; first | (go_simp; done) | (go_simp; rfl))) ?_; simp only [Act.put, List.getElem_toArray, List.getElem_cons_succ, List.getElem_cons_zero, List.setIfInBounds_toArray, List.set_cons_succ, List.set_cons_zero])
              refine takeK_nil ?_
              --CUTC21
              refine wpAnyK_two (i := 1) (j := 8) rfl rfl (by kernel_rfl) (by kernel_rfl) (by kernel_rfl) (fun K1 hK1 => ?_) (fun K8 hK8 => ?_)
              · skip
                go_simp
                go_wp2_with fail
                --CUTD21
                have hbA := hb0.trans ((bel_new wa (.cells #[.string ⟨#[32, 110, 111, 116, 32]⟩, .string ⟨#[44]⟩] 9)).mono hb0.size)
                have hE : blockIs (wa.alloc (.cells #[.string ⟨#[32, 110, 111, 116, 32]⟩, .string ⟨#[44]⟩] 9)) wa.heap.size 9 #[.string ⟨#[32, 110, 111, 116, 32]⟩, .string ⟨#[44]⟩] := blockIs.new rfl
                have hS : _ := SC.later hbA hS1
                refine hK1 _ _ (fun _ => hS) ?_
                clear hK1
                generalize wa.alloc _ = wb at *
                generalize wa.heap.size = eb at *
                refine wpAnyK_takes hQp hS [4] ?_
                iterate 1 (refine takeK_cons _ rfl (by kernel_rfl) (yields_value (by kernel_rfl) (by intro w0 hw0; have hw1 := hw0; simp only [SC] at hw1; first | (go_simp; done) | (go_simp; rfl))) ?_; simp only [Act.put, List.getElem_toArray, List.getElem_cons_succ, List.getElem_cons_zero, List.setIfInBounds_toArray, List.set_cons_succ, List.set_cons_zero])
                refine takeK_nil ?_
                --CUTE21
                refine wpAnyK_two (i := 5) (j := 8) rfl rfl (by kernel_rfl) (by kernel_rfl) (by kernel_rfl) (fun K5 hK5 => ?_) (fun K8 hK8 => ?_)
                · skip
                  obtain ⟨g1, g2⟩ := hE.cells
                  have hgl := hE.lt
                  go_simp
                  go_wp2_with fail
                  --CUTF21
                  have hS : _ := SC.later hbA hS1
                  refine hK5 _ _ (fun _ => hS) ?_
                  clear hK5
                  refine wpAnyK_takes hQp hS [6] ?_
                  iterate 1 (refine takeK_cons _ rfl (by kernel_rfl) (yields_value (by kernel_rfl) (by intro w0 hw0; have hw1 := hw0; simp only [SC] at hw1; first | (go_simp; done) | (go_simp; rfl))) ?_; simp only [Act.put, List.getElem_toArray, List.getElem_cons_succ, List.getElem_cons_zero, List.setIfInBounds_toArray, List.set_cons_succ, List.set_cons_zero])
                  refine takeK_nil ?_
                  clear hS
                  refine wpAnyK_call (i := 8) rfl (by kernel_rfl) (by kernel_rfl) fun K8 hK8 => ?_
                  go_simp
                  go_wp2_with fail
                  refine (Tryd.strconv_Itoa x hI.1 hI.2 wb (tab_below htab6 hbA)).mono ?_
                  rintro e wq ⟨rfl, k9, os, rfl⟩
                  have hbC := grow_bel wb k9 os
                  have hbB := hbA.trans (hbC.mono hbA.size)
                  generalize Sort.grow (wb.drewN k9) os = wc at *
                  go_wp2_with fail
                  rw [show (⟨(Lib.itoa x).toArray⟩ : ByteArray) = itoaB x from rfl]
                  have hS : _ := SC.later hbB hS1
                  refine hK8 _ _ (fun _ => hS) ?_
                  clear hK8
                  refine wpAnyK_takes hQp hS [9,10] ?_
                  iterate 2 (refine takeK_cons _ rfl (by kernel_rfl) (yields_value (by kernel_rfl) (by intro w0 hw0; have hw1 := hw0; simp only [SC] at hw1; first | (go_simp; done) | (go_simp; rfl))) ?_; simp only [Act.put, List.getElem_toArray, List.getElem_cons_succ, List.getElem_cons_zero, List.setIfInBounds_toArray, List.set_cons_succ, List.set_cons_zero])
                  refine takeK_nil ?_
                  refine wpAnyK_done (by kernel_rfl) ?_ _
                  refine hR _ _ ?_
                  iterate 10 apply Exists.intro
                  refine ⟨?_, hbB⟩
                  simp only [puts, Act.put, List.setIfInBounds_toArray, List.set_cons_succ, List.set_cons_zero]
                  rfl
                · skip
                  go_simp
                  go_wp2_with fail
                  refine (Tryd.strconv_Itoa x hI.1 hI.2 wb (tab_below htab6 hbA)).mono ?_
                  rintro e wq ⟨rfl, k9, os, rfl⟩
                  have hbC := grow_bel wb k9 os
                  have hbB := hbA.trans (hbC.mono hbA.size)
                  generalize Sort.grow (wb.drewN k9) os = wc at *
                  go_wp2_with fail
                  rw [show (⟨(Lib.itoa x).toArray⟩ : ByteArray) = itoaB x from rfl]
                  have hS : _ := SC.later hbB hS1
                  refine hK8 _ _ (fun _ => hS) ?_
                  clear hK8
                  obtain ⟨g1, g2⟩ := (hE.under hbC).cells
                  have hgl := (hE.under hbC).lt
                  clear hS
                  refine wpAnyK_call (i := 5) rfl (by kernel_rfl) (by kernel_rfl) fun K5 hK5 => ?_
                  go_simp
                  go_wp2_with fail
                  have hS : _ := SC.later hbB hS1
                  refine hK5 _ _ (fun _ => hS) ?_
                  clear hK5
                  refine wpAnyK_takes hQp hS [6,9,10] ?_
                  iterate 3 (refine takeK_cons _ rfl (by kernel_rfl) (yields_value (by kernel_rfl) (by intro w0 hw0; have hw1 := hw0; simp only [SC] at hw1; first | (go_simp; done) | (go_simp; rfl))) ?_; simp only [Act.put, List.getElem_toArray, List.getElem_cons_succ, List.getElem_cons_zero, List.setIfInBounds_toArray, List.set_cons_succ, List.set_cons_zero])
                  refine takeK_nil ?_
                  refine wpAnyK_done (by kernel_rfl) ?_ _
                  refine hR _ _ ?_
                  iterate 10 apply Exists.intro
                  refine ⟨?_, hbB⟩
                  simp only [puts, Act.put, List.setIfInBounds_toArray, List.set_cons_succ, List.set_cons_zero]
                  rfl
              · skip
                go_simp
                go_wp2_with fail
                refine (Tryd.strconv_Itoa x hI.1 hI.2 wa (tab_below htab6 hb0)).mono ?_
                rintro e wq ⟨rfl, k9, os, rfl⟩
                have hbC := grow_bel wa k9 os
                have hbA := hb0.trans (hbC.mono hb0.size)
                generalize Sort.grow (wa.drewN k9) os = wb at *
                go_wp2_with fail
                rw [show (⟨(Lib.itoa x).toArray⟩ : ByteArray) = itoaB x from rfl]
                have hS : _ := SC.later hbA hS1
                refine hK8 _ _ (fun _ => hS) ?_
                clear hK8
                clear hS
                refine wpAnyK_call (i := 1) rfl (by kernel_rfl) (by kernel_rfl) fun K1 hK1 => ?_
                go_simp
                go_wp2_with fail
                --CUTG21
                have hbB := hbA.trans ((bel_new wb (.cells #[.string ⟨#[32, 110, 111, 116, 32]⟩, .string ⟨#[44]⟩] 9)).mono hbA.size)
                have hE : blockIs (wb.alloc (.cells #[.string ⟨#[32, 110, 111, 116, 32]⟩, .string ⟨#[44]⟩] 9)) wb.heap.size 9 #[.string ⟨#[32, 110, 111, 116, 32]⟩, .string ⟨#[44]⟩] := blockIs.new rfl
                have hS : _ := SC.later hbB hS1
                refine hK1 _ _ (fun _ => hS) ?_
                clear hK1
                generalize wb.alloc _ = wc at *
                generalize wb.heap.size = eb at *
                refine wpAnyK_takes hQp hS [4] ?_
                iterate 1 (refine takeK_cons _ rfl (by kernel_rfl) (yields_value (by kernel_rfl) (by intro w0 hw0; have hw1 := hw0; simp only [SC] at hw1; first | (go_simp; done) | (go_simp; rfl))) ?_; simp only [Act.put, List.getElem_toArray, List.getElem_cons_succ, List.getElem_cons_zero, List.setIfInBounds_toArray, List.set_cons_succ, List.set_cons_zero])
                refine takeK_nil ?_
                obtain ⟨g1, g2⟩ := hE.cells
                have hgl := hE.lt
                clear hS
                refine wpAnyK_call (i := 5) rfl (by kernel_rfl) (by kernel_rfl) fun K5 hK5 => ?_
                go_simp
                go_wp2_with fail
                have hS : _ := SC.later hbB hS1
                refine hK5 _ _ (fun _ => hS) ?_
                clear hK5
                refine wpAnyK_takes hQp hS [6,9,10] ?_
                iterate 3 (refine takeK_cons _ rfl (by kernel_rfl) (yields_value (by kernel_rfl) (by intro w0 hw0; have hw1 := hw0; simp only [SC] at hw1; first | (go_simp; done) | (go_simp; rfl))) ?_; simp only [Act.put, List.getElem_toArray, List.getElem_cons_succ, List.getElem_cons_zero, List.setIfInBounds_toArray, List.set_cons_succ, List.set_cons_zero])
                refine takeK_nil ?_
                refine wpAnyK_done (by kernel_rfl) ?_ _
                refine hR _ _ ?_
                iterate 10 apply Exists.intro
                refine ⟨?_, hbB⟩
                simp only [puts, Act.put, List.setIfInBounds_toArray, List.set_cons_succ, List.set_cons_zero]
                rfl
            rintro a' w8 ⟨v64, v65, v66, v67, v68, v69, v70, v71, v72, v73, rfl, hb8⟩
            simp only [puts, Act.put, List.setIfInBounds_toArray, List.set_cons_succ, List.set_cons_zero]
            rename World => w9
            have HTN : Hid ((TB ++ ⟨#[32, 110, 111, 116, 32]⟩ ++ itoaB x : ByteArray).data.toList = TB1.data.toList ++ joinW notW (f.no.take (j + 1))) := Lib.hid (by
              rw [str_app, str_app, HTB.out, itoaB_list, HJ2.out, List.append_assoc, List.append_assoc]
              all_goals rfl)
            have hb9 := hbj.trans (hb8.mono hbj.size)
            clear hS0 hS1
            go_wp2
            case roundEnd =>
              go_roundw
              case rel => exact ⟨j + 1, _, rfl, by go_num, by omega, HTN, hb9⟩
              case measure => simp [intOf] <;> omega
          case neg =>
            have m4 : min (j : Int) 1 = 1 := by omega
            have HJ2 : Hid (joinW notW (f.no.take (j + 1)) = joinW notW (f.no.take j) ++ ([44] ++ Lib.itoa x)) := Lib.hid (by rw [HJT.out, if_neg hj0])
            have z1 : ¬ 9223372036854775807 < TB.size + 1 := by omega
            have z2 : ¬ 9223372036854775807 < TB.size + 1 + (itoaB x).size := by omega
            have z2b : ¬ 9223372036854775807 < (TB ++ ⟨#[44]⟩ : ByteArray).size + (itoaB x).size := by rw [ByteArray.size_append]; exact z2
            clear hj0
            --CUTB22
            refine wp_region_to (SC [(⟨xb, 0, none⟩, (.int .i64 f.src)), (⟨xb, 1, none⟩, (.int .i64 f.dst)), (⟨xb, 2, none⟩, (.slice va f.via.length vc)), (⟨xb, 3, none⟩, (.slice (some ⟨xg, xo, none⟩) f.no.length nc))]) 99 (fun a0 a' w' => ∃ v64 v65 v66 v67 v68 v69 v70 v71 v72 v73, a' = puts a0 [(64, v64), (65, v65), (66, v66), (67, v67), (68, v68), (69, v69), (70, v70), (71, v71), (72, v72), (73, v73), (7, .string (TB ++ ⟨#[44]⟩ ++ itoaB x))] ∧ Below wj.heap.size wj w') (by kernel_rfl) ?_ ?_
            · intro Q' hR hQp
              have hb0 : Below wj.heap.size wj wj.drew := by (repeat' (first | with_reducible (first | exact Below.refl _ _ | assumption | refine Below.drew ?_ | refine Below_drewN ?_ _ | refine Below.alloc ?_ ?_ _ | refine Below.setCell ?_ ?_ _) | omega | (simp; done) | (simp; omega)))
              have hS : SC [(⟨xb, 0, none⟩, (.int .i64 f.src)), (⟨xb, 1, none⟩, (.int .i64 f.dst)), (⟨xb, 2, none⟩, (.slice va f.via.length vc)), (⟨xb, 3, none⟩, (.slice (some ⟨xg, xo, none⟩) f.no.length nc))] wj.drew := hS0
              generalize wj.drew = wa at *
              refine wpAnyK_takes hQp hS [0,2,7,3] ?_
              iterate 4 (refine takeK_cons _ rfl (by kernel_rfl) (yields_value (by kernel_rfl) (by intro w0 hw0; have hw1 := hw0; simp only [SC] at hw1; first | (go_simp; done) | (go_simp; rfl))) ?_; simp only [Act.put, List.getElem_toArray, List.getElem_cons_succ, List.getElem_cons_zero, List.setIfInBounds_toArray, List.set_cons_succ, List.set_cons_zero])
              refine takeK_nil ?_
              --CUTC22
              refine wpAnyK_two (i := 1) (j := 8) rfl rfl (by kernel_rfl) (by kernel_rfl) (by kernel_rfl) (fun K1 hK1 => ?_) (fun K8 hK8 => ?_)
              · skip
                go_simp
                go_wp2_with fail
                --CUTD22
                have hbA := hb0.trans ((bel_new wa (.cells #[.string ⟨#[32, 110, 111, 116, 32]⟩, .string ⟨#[44]⟩] 9)).mono hb0.size)
                have hE : blockIs (wa.alloc (.cells #[.string ⟨#[32, 110, 111, 116, 32]⟩, .string ⟨#[44]⟩] 9)) wa.heap.size 9 #[.string ⟨#[32, 110, 111, 116, 32]⟩, .string ⟨#[44]⟩] := blockIs.new rfl
                have hS : _ := SC.later hbA hS1
                refine hK1 _ _ (fun _ => hS) ?_
                clear hK1
                generalize wa.alloc _ = wb at *
                generalize wa.heap.size = eb at *
                refine wpAnyK_takes hQp hS [4] ?_
                iterate 1 (refine takeK_cons _ rfl (by kernel_rfl) (yields_value (by kernel_rfl) (by intro w0 hw0; have hw1 := hw0; simp only [SC] at hw1; first | (go_simp; done) | (go_simp; rfl))) ?_; simp only [Act.put, List.getElem_toArray, List.getElem_cons_succ, List.getElem_cons_zero, List.setIfInBounds_toArray, List.set_cons_succ, List.set_cons_zero])
                refine takeK_nil ?_
                --CUTE22
                refine wpAnyK_two (i := 5) (j := 8) rfl rfl (by kernel_rfl) (by kernel_rfl) (by kernel_rfl) (fun K5 hK5 => ?_) (fun K8 hK8 => ?_)
                · skip
                  obtain ⟨g1, g2⟩ := hE.cells
                  have hgl := hE.lt
                  go_simp
                  go_wp2_with fail
                  --CUTF22
                  have hS : _ := SC.later hbA hS1
                  refine hK5 _ _ (fun _ => hS) ?_
                  clear hK5
                  refine wpAnyK_takes hQp hS [6] ?_
                  iterate 1 (refine takeK_cons _ rfl (by kernel_rfl) (yields_value (by kernel_rfl) (by intro w0 hw0; have hw1 := hw0; simp only [SC] at hw1; first | (go_simp; done) | (go_simp; rfl))) ?_; simp only [Act.put, List.getElem_toArray, List.getElem_cons_succ, List.getElem_cons_zero, List.setIfInBounds_toArray, List.set_cons_succ, List.set_cons_zero])
                  refine takeK_nil ?_
                  clear hS
                  refine wpAnyK_call (i := 8) rfl (by kernel_rfl) (by kernel_rfl) fun K8 hK8 => ?_
                  go_simp
                  go_wp2_with fail
                  refine (Tryd.strconv_Itoa x hI.1 hI.2 wb (tab_below htab6 hbA)).mono ?_
                  rintro e wq ⟨rfl, k9, os, rfl⟩
                  have hbC := grow_bel wb k9 os
                  have hbB := hbA.trans (hbC.mono hbA.size)
                  generalize Sort.grow (wb.drewN k9) os = wc at *
                  go_wp2_with fail
                  rw [show (⟨(Lib.itoa x).toArray⟩ : ByteArray) = itoaB x from rfl]
                  have hS : _ := SC.later hbB hS1
                  refine hK8 _ _ (fun _ => hS) ?_
                  clear hK8
                  refine wpAnyK_takes hQp hS [9,10] ?_
                  iterate 2 (refine takeK_cons _ rfl (by kernel_rfl) (yields_value (by kernel_rfl) (by intro w0 hw0; have hw1 := hw0; simp only [SC] at hw1; first | (go_simp; done) | (go_simp; rfl))) ?_; simp only [Act.put, List.getElem_toArray, List.getElem_cons_succ, List.getElem_cons_zero, List.setIfInBounds_toArray, List.set_cons_succ, List.set_cons_zero])
                  refine takeK_nil ?_
                  refine wpAnyK_done (by kernel_rfl) ?_ _
                  refine hR _ _ ?_
                  iterate 10 apply Exists.intro
                  refine ⟨?_, hbB⟩
                  simp only [puts, Act.put, List.setIfInBounds_toArray, List.set_cons_succ, List.set_cons_zero]
                  rfl
                · skip
                  go_simp
                  go_wp2_with fail
                  refine (Tryd.strconv_Itoa x hI.1 hI.2 wb (tab_below htab6 hbA)).mono ?_
                  rintro e wq ⟨rfl, k9, os, rfl⟩
                  have hbC := grow_bel wb k9 os
                  have hbB := hbA.trans (hbC.mono hbA.size)
                  generalize Sort.grow (wb.drewN k9) os = wc at *
                  go_wp2_with fail
                  rw [show (⟨(Lib.itoa x).toArray⟩ : ByteArray) = itoaB x from rfl]
                  have hS : _ := SC.later hbB hS1
                  refine hK8 _ _ (fun _ => hS) ?_
                  clear hK8
                  obtain ⟨g1, g2⟩ := (hE.under hbC).cells
                  have hgl := (hE.under hbC).lt
                  clear hS
                  refine wpAnyK_call (i := 5) rfl (by kernel_rfl) (by kernel_rfl) fun K5 hK5 => ?_
                  go_simp
                  go_wp2_with fail
                  have hS : _ := SC.later hbB hS1
                  refine hK5 _ _ (fun _ => hS) ?_
                  clear hK5
                  refine wpAnyK_takes hQp hS [6,9,10] ?_
                  iterate 3 (refine takeK_cons _ rfl (by kernel_rfl) (yields_value (by kernel_rfl) (by intro w0 hw0; have hw1 := hw0; simp only [SC] at hw1; first | (go_simp; done) | (go_simp; rfl))) ?_; simp only [Act.put, List.getElem_toArray, List.getElem_cons_succ, List.getElem_cons_zero, List.setIfInBounds_toArray, List.set_cons_succ, List.set_cons_zero])
                  refine takeK_nil ?_
                  refine wpAnyK_done (by kernel_rfl) ?_ _
                  refine hR _ _ ?_
                  iterate 10 apply Exists.intro
                  refine ⟨?_, hbB⟩
                  simp only [puts, Act.put, List.setIfInBounds_toArray, List.set_cons_succ, List.set_cons_zero]
                  rfl
              · skip
                go_simp
                go_wp2_with fail
                refine (Tryd.strconv_Itoa x hI.1 hI.2 wa (tab_below htab6 hb0)).mono ?_
                rintro e wq ⟨rfl, k9, os, rfl⟩
                have hbC := grow_bel wa k9 os
                have hbA := hb0.trans (hbC.mono hb0.size)
                generalize Sort.grow (wa.drewN k9) os = wb at *
                go_wp2_with fail
                rw [show (⟨(Lib.itoa x).toArray⟩ : ByteArray) = itoaB x from rfl]
                have hS : _ := SC.later hbA hS1
                refine hK8 _ _ (fun _ => hS) ?_
                clear hK8
                clear hS
                refine wpAnyK_call (i := 1) rfl (by kernel_rfl) (by kernel_rfl) fun K1 hK1 => ?_
                go_simp
                go_wp2_with fail
                --CUTG22
                have hbB := hbA.trans ((bel_new wb (.cells #[.string ⟨#[32, 110, 111, 116, 32]⟩, .string ⟨#[44]⟩] 9)).mono hbA.size)
                have hE : blockIs (wb.alloc (.cells #[.string ⟨#[32, 110, 111, 116, 32]⟩, .string ⟨#[44]⟩] 9)) wb.heap.size 9 #[.string ⟨#[32, 110, 111, 116, 32]⟩, .string ⟨#[44]⟩] := blockIs.new rfl
                have hS : _ := SC.later hbB hS1
                refine hK1 _ _ (fun _ => hS) ?_
                clear hK1
                generalize wb.alloc _ = wc at *
                generalize wb.heap.size = eb at *
                refine wpAnyK_takes hQp hS [4] ?_
                iterate 1 (refine takeK_cons _ rfl (by kernel_rfl) (yields_value (by kernel_rfl) (by intro w0 hw0; have hw1 := hw0; simp only [SC] at hw1; first | (go_simp; done) | (go_simp; rfl))) ?_; simp only [Act.put, List.getElem_toArray, List.getElem_cons_succ, List.getElem_cons_zero, List.setIfInBounds_toArray, List.set_cons_succ, List.set_cons_zero])
                refine takeK_nil ?_
                obtain ⟨g1, g2⟩ := hE.cells
                have hgl := hE.lt
                clear hS
                refine wpAnyK_call (i := 5) rfl (by kernel_rfl) (by kernel_rfl) fun K5 hK5 => ?_
                go_simp
                go_wp2_with fail
                have hS : _ := SC.later hbB hS1
                refine hK5 _ _ (fun _ => hS) ?_
                clear hK5
                refine wpAnyK_takes hQp hS [6,9,10] ?_
                iterate 3 (refine takeK_cons _ rfl (by kernel_rfl) (yields_value (by kernel_rfl) (by intro w0 hw0; have hw1 := hw0; simp only [SC] at hw1; first | (go_simp; done) | (go_simp; rfl))) ?_; simp only [Act.put, List.getElem_toArray, List.getElem_cons_succ, List.getElem_cons_zero, List.setIfInBounds_toArray, List.set_cons_succ, List.set_cons_zero])
                refine takeK_nil ?_
                refine wpAnyK_done (by kernel_rfl) ?_ _
                refine hR _ _ ?_
                iterate 10 apply Exists.intro
                refine ⟨?_, hbB⟩
                simp only [puts, Act.put, List.setIfInBounds_toArray, List.set_cons_succ, List.set_cons_zero]
                rfl
            rintro a' w8 ⟨v64, v65, v66, v67, v68, v69, v70, v71, v72, v73, rfl, hb8⟩
            simp only [puts, Act.put, List.setIfInBounds_toArray, List.set_cons_succ, List.set_cons_zero]
            rename World => w9
            have HTN : Hid ((TB ++ ⟨#[44]⟩ ++ itoaB x : ByteArray).data.toList = TB1.data.toList ++ joinW notW (f.no.take (j + 1))) := Lib.hid (by
              rw [str_app, str_app, HTB.out, itoaB_list, HJ2.out, List.append_assoc, List.append_assoc]
              all_goals rfl)
            have hb9 := hbj.trans (hb8.mono hbj.size)
            clear hS0 hS1
            go_wp2
            case roundEnd =>
              go_roundw
              case rel => exact ⟨j + 1, _, rfl, by go_num, by omega, HTN, hb9⟩
              case measure => simp [intOf] <;> omega
        have hjm : j = f.no.length := by omega
        have d1 : ¬ (j : Int) < (f.no.length : Int) := by omega
        have HTJ : Hid (TB.data.toList = TB1.data.toList ++ joinW notW f.no) := Lib.hid (by rw [HTB.out, List.take_of_length_le (by omega)])
        have hX6 := hX5.under hbj
        have hG6 := hG5.under hbj
        have hb6 := hb5.trans (hbj.mono hb5.size)
        skip
        clear hX5 hG5 hb5 HTB
        have HTZ : Hid ((TB ++ ⟨#[10]⟩ : ByteArray).data.toList = textOf (l.take (i + 1))) := Lib.hid (by
          rw [str_app, HTJ.out, HTB1.out, HTA.out, HTK.out]
          simp [flowText])
        have hTZ : (TB ++ ⟨#[10]⟩ : ByteArray).size ≤ (i + 1) * 1000000000000 := by
          rw [ByteArray.size_append]
          show TB.size + 1 ≤ _
          omega
        have z1 : ¬ 9223372036854775807 < TB.size + 1 := by omega
        clear HTJ HTB1
        --CUTZ
        go_wp2
        case roundEnd =>
          go_roundw
          case rel => exact ⟨i + 1, _, rfl, by go_num, by omega, HTZ, hTZ, hG6, hb6⟩
          case measure => simp [intOf] <;> omega

end Go.Proofs.YtpfapfgfchenoaaDoor
