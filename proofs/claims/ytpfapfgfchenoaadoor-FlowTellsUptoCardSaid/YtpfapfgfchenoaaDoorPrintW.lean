/-
  The walk of flows.Print.
-/
import Derived.Test.YtpfapfgfchenoaaDoorJoinS
import Derived.Test.YtpfapfgfchenoaaDoorFlowW
import Derived.Test.YtpfapfgfchenoaaDoorShelfE
import Derived.WalkKit
import Derived.WalkSpells
import Derived.WalkLawsBesides
import Derived.Lib.Hide
import Derived.Deep.LoopGhost
import Derived.Deep.QuietTactic
import Derived.BigQuiet
import Derived.Deep.RegionWith
import Derived.Handy
import Derived.Deep.Cut
import Derived.Lib.AtoiErrMem
set_option linter.unusedSimpArgs false
set_option linter.unusedVariables false
namespace Go.St
open Go.RowKit
theorem builderF_below {T e : TypeId} {B b : Nat} {bs : List Value} {w w' : World} (h : Lib.IsBuilderF T e B b bs w) (hb : Below w.heap.size w w') : Lib.IsBuilderF T e B b bs w' := by
  have one : ∀ {p : Value}, Lib.BuilderAtF T e B b p bs w → Lib.BuilderAtF T e B b p bs w' := fun {p} h => by
    obtain ⟨h1, v, h2, h3, h4⟩ := h
    refine ⟨h1, v, by rw [hb.block b (Array.getElem?_eq_some_iff.1 h2).1]; exact h2, ?_, h4⟩
    unfold World.ownsRowF at h3 ⊢
    refine ⟨h3.1, ?_⟩
    rcases h3.2 with h5 | ⟨g, cap, cur, fz, rfl, hg1, hg2, hg3⟩
    · exact .inl h5
    · exact .inr ⟨g, cap, cur, fz, rfl, hg1, by rw [hb.block g (Array.getElem?_eq_some_iff.1 hg2).1]; exact hg2, hg3⟩
  rcases h with h | h
  · exact .inl (one h)
  · exact .inr (one h)
theorem kept_blk {e : TypeId} {b : Nat} {w w' : World} (h : Lib.OthersKept e (some b) w w') {k : Nat} {t : TypeId} {cs : Array Value} (hk : blockIs w k t cs) (hkb : k ≠ b) (ht : t ≠ e) : blockIs w' k t cs :=
  h k _ hk (fun e => hkb (Option.some.inj e)) (fun c fz e => ht (by injection e))
def printT (l : List Flow) (n : Int) : List UInt8 := if (flowsWrong l n).1 ≠ 0 then [] else textOf l
theorem text_take {l : List Flow} {i : Nat} {f : Flow} (h : l[i]? = some f) : textOf (l.take (i + 1)) = textOf (l.take i) ++ flowText f := by
  rw [List.take_add_one, h]; simp [textOf]
theorem flowText_len {f : Flow} (h1 : I64 f.src) (h2 : I64 f.dst) (hv : ∀ x ∈ f.via, I64 x) (hn : ∀ x ∈ f.no, I64 x) : (flowText f).length ≤ 54 + 22 * f.via.length + 22 * f.no.length := by
  unfold flowText
  have a1 := Lib.itoa_length_le f.src h1.1 h1.2
  have a2 := Lib.itoa_length_le f.dst h2.1 h2.2
  have a3 := joinW_len (w := viaW) hv
  have a4 := joinW_len (w := notW) hn
  have : viaW.length = 5 := rfl
  have : notW.length = 5 := rfl
  simp only [List.length_append, List.length_cons, List.length_nil]
  omega
theorem strCells_of (s : ByteArray) : Lib.strCells s = Lib.byteCells s.data.toList := rfl
theorem cells_app (a b : List UInt8) : Lib.byteCells (a ++ b) = Lib.byteCells a ++ Lib.byteCells b := by simp [Lib.byteCells]
end Go.St
namespace Go.Proofs.YtpfapfgfchenoaaDoor
open Go.RowKit Go.St

set_option maxRecDepth 100000 in
set_option maxHeartbeats 16000000 in
theorem print_c (l : List Flow) (n : Int) (hl : ∀ f ∈ l, f.via.length ≤ 10000000000 ∧ f.no.length ≤ 10000000000) (ok : Nat → Prop) (a : Option Addr) (c : Nat) (w : World) (h : rowRep flowS ok w a c l) (htab : Lib.TabIs Tryd.prog w "internal/strconv.uint64pow10" .u64 Lib.pow10Tab) :
    Calls Tryd.prog 11 #[.slice a l.length c, .int .i64 n] w fun e w' => e = .returned (.tuple #[.string ⟨(printT l n).toArray⟩, .agg #[.int .i64 (flowsWrong l n).1, .int .i64 (flowsWrong l n).2]]) ∧ Below w.heap.size w w' := by
  have hlx := h.len_le
  have hb0 := bel_new w (.cells #[.int .i64 0, .int .i64 0] 25)
  have hG0 : blockIs (w.alloc (.cells #[.int .i64 0, .int .i64 0] 25)) w.heap.size 25 #[.int .i64 0, .int .i64 0] := blockIs.new rfl
  have HPB : Hid ((flowsWrong l n).1 ≠ 0 → printT l n = []) := fun h => by unfold printT; rw [if_pos h]
  have HPG : Hid ((flowsWrong l n).1 = 0 → printT l n = textOf l ∧ flowsWrong l n = (0, 0) ∧ l.length ≤ 12) := fun h => by
    refine ⟨by unfold printT; rw [if_neg (fun k => k h)], ?_⟩
    unfold flowsWrong at h ⊢
    split at h
    · exact absurd h (by decide)
    · rename_i h12
      rw [if_neg h12]
      refine ⟨?_, by omega⟩
      have : ∀ (m : List Flow) (i : Int), (flowsBad n i m).1 = 0 → flowsBad n i m = (0, 0) := by
        intro m
        induction m with
        | nil => intro i _; rfl
        | cons f m ih =>
          intro i hh
          unfold flowsBad at hh ⊢
          split
          · rename_i hf; rw [if_pos hf] at hh; exact ih _ hh
          · rename_i hf; rw [if_neg hf] at hh; exact absurd hh hf
      exact this l 0 h
  go_enter Tryd.func11, Tryd.ntmps11
  go_wp2_with fail
  refine (flowsWrong_c l n ok a c _ (h.below hb0)).mono ?_
  rintro e w1 ⟨rfl, hb1⟩
  have hG1 := hG0.under hb1
  have hx2 := bel_new w1 (.cells #[.int .i64 (flowsWrong l n).1, .int .i64 (flowsWrong l n).2] 25)
  have hR2 : blockIs (w1.alloc (.cells #[.int .i64 (flowsWrong l n).1, .int .i64 (flowsWrong l n).2] 25)) w1.heap.size 25 #[.int .i64 (flowsWrong l n).1, .int .i64 (flowsWrong l n).2] := blockIs.new rfl
  have hG2 := hG1.under hx2
  have hs1 := hG1.lt
  have hb2 : Below w.heap.size w (w1.alloc (.cells #[.int .i64 (flowsWrong l n).1, .int .i64 (flowsWrong l n).2] 25)) := hb0.trans ((hb1.mono hb0.size).trans (hx2.mono (by omega)))
  clear hG0 hb0 hb1 hG1 hx2
  --CUT1
  go_upto_region 2 with fail
  generalize w1.alloc _ = w2 at *
  generalize hxb : w1.heap.size = tb at *
  have HXB := Lib.hid hxb
  clear hxb
  obtain ⟨r1, r2⟩ := hR2.cells
  have hrl := hR2.lt
  generalize hfw : flowsWrong l n = FW at *
  obtain ⟨fe, fa⟩ := FW
  have HFW := Lib.hid hfw
  clear hfw
  dsimp only at *
  by_cases hfe : fe = 0
  case neg =>
    have HT := Lib.hid (HPB.out hfe)
    have e1 : (fe != 0) = true := by rw [bne_iff_ne]; exact hfe
    have hz2 := hb2.size
    have hS0 : SC [(⟨tb, 0, none⟩, (.int .i64 fe)), (⟨tb, 1, none⟩, (.int .i64 fa))] w2.drew := ⟨hR2.cells.1 0, hR2.cells.1 1, trivial⟩
    clear hfe HPB HPG
    --CUT2
    go_upto_region 3 with fail
    clear e1 r1 r2
    refine wp_region_to (SC [(⟨tb, 0, none⟩, (.int .i64 fe)), (⟨tb, 1, none⟩, (.int .i64 fa))]) 99 (fun a0 a' w' => ∃ v16, a' = puts a0 [(16, v16), (4, .string ⟨#[]⟩)] ∧ blockIs w' w.heap.size 25 #[.int .i64 fe, .int .i64 fa] ∧ Below w.heap.size w2 w') (by kernel_rfl) ?_ ?_
    · intro Q' hR hQp
      have hb0 : Below w2.heap.size w2 w2.drew := by (repeat' (first | with_reducible (first | exact Below.refl _ _ | assumption | refine Below.drew ?_ | refine Below_drewN ?_ _ | refine Below.alloc ?_ ?_ _ | refine Below.setCell ?_ ?_ _) | omega | (simp; done) | (simp; omega)))
      have hS : SC [(⟨tb, 0, none⟩, (.int .i64 fe)), (⟨tb, 1, none⟩, (.int .i64 fa))] w2.drew := hS0
      generalize w2.drew = wa at *
      have hGa := hG2.under hb0
      have hRa := hR2.under hb0
      refine wpAnyK_takes hQp hS [0,1] ?_
      iterate 2 (refine takeK_cons _ rfl (by kernel_rfl) (yields_value (by kernel_rfl) (by intro w0 hw0; have hw1 := hw0; simp only [SC] at hw1; first | (go_simp; done) | (go_simp; rfl))) ?_; simp only [Act.put, List.getElem_toArray, List.getElem_cons_succ, List.getElem_cons_zero, List.setIfInBounds_toArray, List.set_cons_succ, List.set_cons_zero])
      refine takeK_nil ?_
      obtain ⟨f1, f2⟩ := hGa.cells
      have hfl := hGa.lt
      have hbq := hb0.size
      clear hS
      refine wpAnyK_call (i := 2) rfl (by kernel_rfl) (by kernel_rfl) fun K2 hK2 => ?_
      go_simp
      go_wp2_with fail
      have hGc := (hGa.set 0 (.int .i64 fe)).set 1 (.int .i64 fa)
      simp only [List.setIfInBounds_toArray, List.set_cons_succ, List.set_cons_zero] at hGc
      have hRc := (hRa.setOther (a := ⟨w.heap.size, 0, none⟩) (show tb ≠ w.heap.size by omega) (.int .i64 fe)).setOther (a := ⟨w.heap.size, 1, none⟩) (show tb ≠ w.heap.size by omega) (.int .i64 fa)
      refine hK2 _ _ (fun _ => ⟨hRc.cells.1 0, hRc.cells.1 1, trivial⟩) ?_
      clear hK2
      refine wpAnyK_done (by kernel_rfl) ?_ _
      refine hR _ _ ?_
      iterate 1 apply Exists.intro
      refine ⟨?_, ⟨hGc, ((hb0.mono (by omega)).setCell (p := ⟨w.heap.size, 0, none⟩) (Nat.le_refl _) _).setCell (p := ⟨w.heap.size, 1, none⟩) (Nat.le_refl _) _⟩⟩
      simp only [puts, Act.put, List.setIfInBounds_toArray, List.set_cons_succ, List.set_cons_zero]
      rfl
    rintro a' w8 ⟨v16, rfl, hb8⟩
    simp only [puts, Act.put, List.setIfInBounds_toArray, List.set_cons_succ, List.set_cons_zero]
    obtain ⟨hGz, hbz⟩ := hb8
    obtain ⟨x1, x2⟩ := hGz.cells
    have hBz := hb2.trans hbz
    clear hS0
    --CUT3
    go_wp2_with fail
    with_reducible refine bodyPost_ret (v := .tuple #[.string ⟨#[]⟩, .agg #[.int .i64 fe, .int .i64 fa]]) ?ra1 ?rb1 ?rc1
    case ra1 => simp [results, Tryd.results11, go_sem, x1]
    case rb1 => rfl
    case rc1 => rw [HT.out, HFW.out]; exact ⟨rfl, hBz⟩
  subst hfe
  obtain ⟨hpt, h00, hl12⟩ := HPG.out rfl
  obtain rfl : fa = 0 := by have := congrArg Prod.snd h00; exact this
  have HPT := Lib.hid hpt
  have hx3 := bel_new w2 (.cells #[.pointer none, .slice none 0 0] 55)
  have hI3 := Lib.IsBuilderF.of (Lib.fresh_isBuilder 55 5 w2)
  have hG3 := hG2.under hx3
  have hb3 := hb2.trans (hx3.mono (by omega))
  have hz3 := hx3.size
  have hsz3 : w2.heap.size < (w2.alloc (.cells #[.pointer none, .slice none 0 0] 55)).heap.size := by simp
  clear hpt h00 HPB HPG hG2 hR2 hx3
  --CUT4
  go_wp2
  clear r1 r2
  generalize w2.alloc _ = w3 at *
  generalize w2.heap.size = bb at *
  --CUT5
  go_loopw [19] (fun iv wr => ∃ i : Nat, iv = .int .i64 (i : Int) ∧ i ≤ l.length ∧ Lib.IsBuilderF 55 5 bb bb (Lib.byteCells (textOf (l.take i))) wr ∧ (textOf (l.take i)).length ≤ i * 1000000000000 ∧ blockIs wr w.heap.size 25 #[.int .i64 0, .int .i64 0] ∧ Below bb w3 wr) (fun iv _ => l.length - (intOf iv).toNat)
  case atStart => exact ⟨0, rfl, Nat.zero_le _, hI3, Nat.zero_le _, hG3, Below.refl _ _⟩
  case round =>
    clear hI3 hG3
    obtain ⟨i, rfl, hi, hI, hlen, hG, hb⟩ := hrel
    rename World => wo
    have hzo := hb.size
    have hbw : Below w.heap.size w wo := hb3.trans (hb.mono (by omega))
    by_cases hlt : i < l.length
    case neg =>
      have b1 : ¬ (i : Int) < (l.length : Int) := by omega
      rw [List.take_of_length_le (by omega)] at hI
      have HS := Lib.hid (Tryd.Builder_String_any_k bb bb _ wo hI (by omega))
      obtain ⟨f1, f2⟩ := hG.cells
      have hfl := hG.lt
      clear hlen hI
      --CUT6
      go_wp2_with fail
      refine HS.out.mono ?_
      rintro e w6 ⟨rfl, -, hb6, -⟩
      have hG6 := hG.below hb6 (show w.heap.size < bb by omega)
      have hGz := (hG6.set 0 (.int .i64 0)).set 1 (.int .i64 0)
      simp only [List.setIfInBounds_toArray, List.set_cons_succ, List.set_cons_zero] at hGz
      have hBz := ((hbw.trans (hb6.mono (by omega))).setCell (p := ⟨w.heap.size, 0, none⟩) (Nat.le_refl _) (.int .i64 0)).setCell (p := ⟨w.heap.size, 1, none⟩) (Nat.le_refl _) (.int .i64 0)
      clear f1 f2 hfl
      obtain ⟨f1, f2⟩ := hG6.cells
      have hfl := hG6.lt
      obtain ⟨x1, x2⟩ := hGz.cells
      go_wp2_with fail
      with_reducible refine bodyPost_ret (v := .tuple #[.string ⟨(textOf l).toArray⟩, .agg #[.int .i64 0, .int .i64 0]]) ?ra1 ?rb1 ?rc1
      case ra1 => simp [results, Tryd.results11, go_sem, x1]
      case rb1 => rfl
      case rc1 => rw [HPT.out, HFW.out]; exact ⟨rfl, hBz⟩
    have b1 : (i : Int) < (l.length : Int) := by omega
    have b0 : (0 : Int) ≤ (i : Int) := by omega
    obtain ⟨f, hf⟩ : ∃ f, l[i]? = some f := ⟨_, List.getElem?_eq_getElem hlt⟩
    obtain ⟨hlv, hln⟩ := hl f (List.mem_of_getElem? hf)
    have HTK := Lib.hid (text_take hf)
    obtain ⟨fg, fo, rfl, _, hfgl, cs, ⟨va, vc, na, nc, rfl, hI1, hI2, hvr, hnr⟩, hce⟩ := (h.below hbw).get hf
    have v0 := hce 0 _ rfl
    have v1 := hce 1 _ rfl
    have v2 := hce 2 _ rfl
    have v3 := hce 3 _ rfl
    simp only [show flowS.size = 4 from rfl, Nat.add_zero] at v0 v1 v2 v3
    have hi64 : ∀ {ok : Nat → Prop} {w : World} {a : Option Addr} {c : Nat} {m : List Int}, rowRep intS ok w a c m → ∀ x ∈ m, I64 x := fun hr x hx => by
      obtain ⟨j, hj, rfl⟩ := List.getElem_of_mem hx
      obtain ⟨_, _, _, _, _, cs, ⟨_, hI⟩, _⟩ := hr.get (List.getElem?_eq_getElem hj)
      exact hI
    have HLN := Lib.hid (flowText_len hI1 hI2 (hi64 hvr) (hi64 hnr))
    have hx4 := bel_new wo (.cells #[.int .i64 f.src, .int .i64 f.dst, .slice va f.via.length vc, .slice na f.no.length nc] 40)
    have hX4 : blockIs (wo.alloc (.cells #[.int .i64 f.src, .int .i64 f.dst, .slice va f.via.length vc, .slice na f.no.length nc] 40)) wo.heap.size 40 #[.int .i64 f.src, .int .i64 f.dst, .slice va f.via.length vc, .slice na f.no.length nc] := blockIs.new rfl
    have hI4 := builderF_below hI hx4
    have hG4 := hG.under hx4
    have hb4 := hb.trans (hx4.mono (by omega))
    have hvr4 := hvr.below hx4
    have hnr4 := hnr.below hx4
    have htab4 := tab_below htab (hbw.trans (hx4.mono (by have := hbw.size; omega)))
    have hz4 := hx4.size
    have HI3 := Lib.hid (hi64 hvr)
    have HI4 := Lib.hid (hi64 hnr)
    clear hce hf hI hG hb hvr hnr hx4 hi64
    --CUT7
    go_upto_region 8 with fail
    clear v0 v1 v2 v3
    generalize wo.alloc _ = w4 at *
    generalize hxb : wo.heap.size = xb at *
    have hxbb : bb < xb := by omega
    clear hxb
    have hS1 : SC [(⟨xb, 0, none⟩, (.int .i64 f.src)), (⟨xb, 1, none⟩, (.int .i64 f.dst)), (⟨xb, 2, none⟩, (.slice va f.via.length vc)), (⟨xb, 3, none⟩, (.slice na f.no.length nc))] w4 := ⟨hX4.cells.1 0, hX4.cells.1 1, hX4.cells.1 2, hX4.cells.1 3, trivial⟩
    have hS0 : SC [(⟨xb, 0, none⟩, (.int .i64 f.src)), (⟨xb, 1, none⟩, (.int .i64 f.dst)), (⟨xb, 2, none⟩, (.slice va f.via.length vc)), (⟨xb, 3, none⟩, (.slice na f.no.length nc))] w4.drew := hS1
    --CUT8
    refine wp_region_to (SC [(⟨xb, 0, none⟩, (.int .i64 f.src)), (⟨xb, 1, none⟩, (.int .i64 f.dst)), (⟨xb, 2, none⟩, (.slice va f.via.length vc)), (⟨xb, 3, none⟩, (.slice na f.no.length nc))]) 99 (fun a0 a' w' => ∃ v23 v24 v25 v26 v27 v28 v29 v30 v31 v32 v33 v34 v35 v36 v37 v38 v39 v40, a' = puts a0 [(23, v23), (24, v24), (25, v25), (26, v26), (27, v27), (28, v28), (29, v29), (30, v30), (31, v31), (32, v32), (33, v33), (34, v34), (35, v35), (36, v36), (37, v37), (38, v38), (39, v39), (40, v40)] ∧ Lib.IsBuilderF 55 5 bb bb (Lib.byteCells (textOf (l.take i) ++ flowText f)) w' ∧ blockIs w' w.heap.size 25 #[.int .i64 0, .int .i64 0] ∧ Below bb w4 w') (by kernel_rfl) ?_ ?_
    · intro Q' hR hQp
      have hb0 : Below w4.heap.size w4 w4.drew := by (repeat' (first | with_reducible (first | exact Below.refl _ _ | assumption | refine Below.drew ?_ | refine Below_drewN ?_ _ | refine Below.alloc ?_ ?_ _ | refine Below.setCell ?_ ?_ _) | omega | (simp; done) | (simp; omega)))
      have hS : SC [(⟨xb, 0, none⟩, (.int .i64 f.src)), (⟨xb, 1, none⟩, (.int .i64 f.dst)), (⟨xb, 2, none⟩, (.slice va f.via.length vc)), (⟨xb, 3, none⟩, (.slice na f.no.length nc))] w4.drew := hS0
      generalize w4.drew = wa at *
      refine wpAnyK_takes hQp hS [0,4,8,12,1,5,9,13] ?_
      iterate 8 (refine takeK_cons _ rfl (by kernel_rfl) (yields_value (by kernel_rfl) (by intro w0 hw0; have hw1 := hw0; simp only [SC] at hw1; first | (go_simp; done) | (go_simp; rfl))) ?_; simp only [Act.put, List.getElem_toArray, List.getElem_cons_succ, List.getElem_cons_zero, List.setIfInBounds_toArray, List.set_cons_succ, List.set_cons_zero])
      refine takeK_nil ?_
      clear hS
      refine wpAnyK_call (i := 2) rfl (by kernel_rfl) (by kernel_rfl) fun K2 hK2 => ?_
      go_simp
      go_wp2_with fail
      refine (Tryd.strconv_Itoa f.src hI1.1 hI1.2 wa (tab_below htab4 hb0)).mono ?_
      rintro e wb ⟨rfl, k9, os, rfl⟩
      have hb5 := hb0.trans ((grow_bel wa k9 os).mono hb0.size)
      generalize Sort.grow (wa.drewN k9) os = wb at *
      go_wp2_with fail
      rw [show (⟨(Lib.itoa f.src).toArray⟩ : ByteArray) = itoaB f.src from rfl]
      have hS : _ := SC.later hb5 hS1
      refine hK2 _ _ (fun _ => hS) ?_
      clear hK2
      have y1 : (itoaB f.src).size ≤ 21 := by rw [← str_len, itoaB_list]; exact Lib.itoa_length_le f.src hI1.1 hI1.2
      have y2 : (itoaB f.dst).size ≤ 21 := by rw [← str_len, itoaB_list]; exact Lib.itoa_length_le f.dst hI2.1 hI2.2
      have z1 : ¬ 9223372036854775807 < (itoaB f.src).size + 1 := by omega
      --CUT9
      refine wpAnyK_takes hQp hS [3] ?_
      iterate 1 (refine takeK_cons _ rfl (by kernel_rfl) (yields_value (by kernel_rfl) (by intro w0 hw0; have hw1 := hw0; simp only [SC] at hw1; first | (go_simp; done) | (go_simp; rfl))) ?_; simp only [Act.put, List.getElem_toArray, List.getElem_cons_succ, List.getElem_cons_zero, List.setIfInBounds_toArray, List.set_cons_succ, List.set_cons_zero])
      refine takeK_nil ?_
      --CUT10
      clear hS
      refine wpAnyK_call (i := 6) rfl (by kernel_rfl) (by kernel_rfl) fun K6 hK6 => ?_
      go_simp
      go_wp2_with fail
      refine (Tryd.strconv_Itoa f.dst hI2.1 hI2.2 wb (tab_below htab4 hb5)).mono ?_
      rintro e wc ⟨rfl, k8, os, rfl⟩
      have hb6 := hb5.trans ((grow_bel wb k8 os).mono hb5.size)
      generalize Sort.grow (wb.drewN k8) os = wc at *
      go_wp2_with fail
      rw [show (⟨(Lib.itoa f.dst).toArray⟩ : ByteArray) = itoaB f.dst from rfl]
      have hS : _ := SC.later hb6 hS1
      refine hK6 _ _ (fun _ => hS) ?_
      clear hK6
      have z2 : ¬ 9223372036854775807 < (itoaB f.src).size + 1 + (itoaB f.dst).size := by omega
      have z2b : ¬ 9223372036854775807 < (itoaB f.src ++ ⟨#[62]⟩ : ByteArray).size + (itoaB f.dst).size := by rw [ByteArray.size_append]; exact z2
      --CUT11
      refine wpAnyK_takes hQp hS [7] ?_
      iterate 1 (refine takeK_cons _ rfl (by kernel_rfl) (yields_value (by kernel_rfl) (by intro w0 hw0; have hw1 := hw0; simp only [SC] at hw1; first | (go_simp; done) | (go_simp; rfl))) ?_; simp only [Act.put, List.getElem_toArray, List.getElem_cons_succ, List.getElem_cons_zero, List.setIfInBounds_toArray, List.set_cons_succ, List.set_cons_zero])
      refine takeK_nil ?_
      clear hS
      refine wpAnyK_call (i := 10) rfl (by kernel_rfl) (by kernel_rfl) fun K10 hK10 => ?_
      go_simp
      go_wp2_with fail
      refine (join_c ⟨#[32, 118, 105, 97, 32]⟩ (by decide) f.via (by omega) ok va vc wc (hvr4.below hb6) (tab_below htab4 hb6)).mono ?_
      rintro e wd ⟨jv, rfl, hjv, hbj⟩
      have hb7 := hb6.trans (hbj.mono hb6.size)
      go_wp2_with fail
      have hS : _ := SC.later hb7 hS1
      refine hK10 _ _ (fun _ => hS) ?_
      clear hK10
      have HJV : Hid (jv.data.toList = joinW viaW f.via) := Lib.hid hjv
      have hjl := joinW_len (w := viaW) HI3.out
      rw [← HJV.out, str_len] at hjl
      have hjl : jv.size ≤ 5 + 22 * f.via.length := hjl
      have z3 : ¬ 9223372036854775807 < (itoaB f.src).size + 1 + (itoaB f.dst).size + jv.size := by omega
      have z3b : ¬ 9223372036854775807 < (itoaB f.src ++ ⟨#[62]⟩ ++ itoaB f.dst : ByteArray).size + jv.size := by rw [ByteArray.size_append, ByteArray.size_append]; exact z3
      clear hjv
      --CUT12
      refine wpAnyK_takes hQp hS [11] ?_
      iterate 1 (refine takeK_cons _ rfl (by kernel_rfl) (yields_value (by kernel_rfl) (by intro w0 hw0; have hw1 := hw0; simp only [SC] at hw1; first | (go_simp; done) | (go_simp; rfl))) ?_; simp only [Act.put, List.getElem_toArray, List.getElem_cons_succ, List.getElem_cons_zero, List.setIfInBounds_toArray, List.set_cons_succ, List.set_cons_zero])
      refine takeK_nil ?_
      clear hS
      refine wpAnyK_call (i := 14) rfl (by kernel_rfl) (by kernel_rfl) fun K14 hK14 => ?_
      go_simp
      go_wp2_with fail
      refine (join_c ⟨#[32, 110, 111, 116, 32]⟩ (by decide) f.no (by omega) ok na nc wd (hnr4.below hb7) (tab_below htab4 hb7)).mono ?_
      rintro e we ⟨jn, rfl, hjn, hbk⟩
      have hb8' := hb7.trans (hbk.mono hb7.size)
      go_wp2_with fail
      have hS : _ := SC.later hb8' hS1
      refine hK14 _ _ (fun _ => hS) ?_
      clear hK14
      have HTX : Hid ((itoaB f.src ++ ⟨#[62]⟩ ++ itoaB f.dst ++ jv ++ jn ++ ⟨#[10]⟩ : ByteArray).data.toList = flowText f) := Lib.hid (by
        rw [str_app, str_app, str_app, str_app, str_app, itoaB_list, itoaB_list, HJV.out, show jn.data.toList = joinW notW f.no from hjn]
        rfl)
      have HJN : Hid (jn.data.toList = joinW notW f.no) := Lib.hid hjn
      have hnl := joinW_len (w := notW) HI4.out
      rw [← HJN.out, str_len] at hnl
      have hnl : jn.size ≤ 5 + 22 * f.no.length := hnl
      have z4 : ¬ 9223372036854775807 < (itoaB f.src).size + 1 + (itoaB f.dst).size + jv.size + jn.size := by omega
      have z4b : ¬ 9223372036854775807 < (itoaB f.src ++ ⟨#[62]⟩ ++ itoaB f.dst ++ jv : ByteArray).size + jn.size := by rw [ByteArray.size_append, ByteArray.size_append, ByteArray.size_append]; exact z4
      have z5 : ¬ 9223372036854775807 < (itoaB f.src).size + 1 + (itoaB f.dst).size + jv.size + jn.size + 1 := by omega
      have z5b : ¬ 9223372036854775807 < (itoaB f.src ++ ⟨#[62]⟩ ++ itoaB f.dst ++ jv ++ jn : ByteArray).size + 1 := by rw [ByteArray.size_append, ByteArray.size_append, ByteArray.size_append, ByteArray.size_append]; exact z5
      clear hjn
      --CUT13
      refine wpAnyK_takes hQp hS [15,16] ?_
      iterate 2 (refine takeK_cons _ rfl (by kernel_rfl) (yields_value (by kernel_rfl) (by intro w0 hw0; have hw1 := hw0; simp only [SC] at hw1; first | (go_simp; done) | (go_simp; rfl))) ?_; simp only [Act.put, List.getElem_toArray, List.getElem_cons_succ, List.getElem_cons_zero, List.setIfInBounds_toArray, List.set_cons_succ, List.set_cons_zero])
      refine takeK_nil ?_
      have hIe := builderF_below hI4 hb8'
      have hGe := hG4.under hb8'
      have hXe := hX4.under hb8'
      obtain ⟨TX, hTX⟩ : ∃ TX : ByteArray, (itoaB f.src ++ ⟨#[62]⟩ ++ itoaB f.dst ++ jv ++ jn ++ ⟨#[10]⟩ : ByteArray) = TX := ⟨_, rfl⟩
      have HTY : Hid (TX.data.toList = flowText f) := Lib.hid (by rw [← hTX]; exact HTX.out)
      have htl : (Lib.byteCells (textOf (l.take i))).length + TX.size ≤ 140737488355328 := by
        rw [Lib.byteCells_length, ← str_len, HTY.out]
        have := HLN.out
        omega
      have HWS := Lib.hid (Tryd.Builder_WriteString_k bb bb _ TX we hIe htl (by have := hb8'.size; omega))
      --CUT14
      rw [hTX]
      clear HTX hTX z1 z2 z2b z3 z3b z4 z4b z5 z5b
      --CUT14b
      clear hS
      refine wpAnyK_call (i := 17) rfl (by kernel_rfl) (by kernel_rfl) fun K17 hK17 => ?_
      go_simp
      go_wp2_with fail
      --CUT14c
      refine HWS.out.mono ?_
      rintro e wf ⟨rfl, hIf, hbf, hkf⟩
      have hIf2 : Lib.IsBuilderF 55 5 bb bb (Lib.byteCells (textOf (l.take i) ++ flowText f)) wf := by
        rw [strCells_of, HTY.out, ← cells_app] at hIf
        exact .inr hIf
      have hGf := hGe.below hbf (show w.heap.size < bb by omega)
      have hXf := kept_blk hkf hXe (show xb ≠ bb by omega) (by decide)
      have hbz := (hb8'.mono (show bb ≤ w4.heap.size by omega)).trans hbf
      go_wp2_with fail
      refine hK17 _ _ (fun _ => ⟨hXf.cells.1 0, hXf.cells.1 1, hXf.cells.1 2, hXf.cells.1 3, trivial⟩) ?_
      clear hK17
      refine wpAnyK_done (by kernel_rfl) ?_ _
      refine hR _ _ ?_
      iterate 18 apply Exists.intro
      refine ⟨?_, ⟨hIf2, hGf, hbz⟩⟩
      simp only [puts, Act.put, List.setIfInBounds_toArray, List.set_cons_succ, List.set_cons_zero]
      rfl
    rintro a' w8 ⟨v23, v24, v25, v26, v27, v28, v29, v30, v31, v32, v33, v34, v35, v36, v37, v38, v39, v40, rfl, hb8⟩
    simp only [puts, Act.put, List.setIfInBounds_toArray, List.set_cons_succ, List.set_cons_zero]
    obtain ⟨hI9, hG9, hb9⟩ := hb8
    rename World => w9
    have hbb := hb4.trans hb9
    have hll : (textOf (l.take (i + 1))).length ≤ (i + 1) * 1000000000000 := by rw [HTK.out, List.length_append]; have := HLN.out; omega
    rw [← HTK.out] at hI9
    clear hS0 hS1
    --CUT15
    go_wp2
    case roundEnd =>
      go_roundw
      case rel => exact ⟨i + 1, by go_num, by omega, hI9, hll, hG9, hbb⟩
      case measure => simp [intOf] <;> omega

end Go.Proofs.YtpfapfgfchenoaaDoor
