/-
  The walk of flows.join.
-/
import Derived.Test.YtpfapfgfchenoaaDoorReadN
import Derived.WalkKit
import Derived.WalkSpells
import Derived.WalkLawsBesides
import Derived.Lib.Hide
import Derived.Deep.LoopGhost
import Derived.Deep.QuietTactic
import Derived.BigQuiet
import Derived.Deep.RegionWith
import Derived.Handy
import Derived.Deep.Cut
import Derived.Lib.AtoiErrMem
set_option linter.unusedSimpArgs false
set_option linter.unusedVariables false
namespace Go.St
open Go.RowKit
def strS : Shape ByteArray where
  size := 1
  rep _ _ cs x := cs = [.string x]
  len h := by rw [h]; rfl
  one h := by rw [h]; simp [Value.oneCell']
  mono h _ := h
theorem tab_below {P : Program} {w w' : World} {name : String} {k : IntKind} {zs : List Int} (h : Lib.TabIs P w name k zs) (hb : Below w.heap.size w w') : Lib.TabIs P w' name k zs := by
  unfold Lib.TabIs World.var? at *
  cases hg : P.globalNamed name with
  | none => simp [hg] at h
  | some g =>
    simp only [hg, Option.bind_some] at h ⊢
    have hlt : g < w.heap.size := by
      rcases Nat.lt_or_ge g w.heap.size with h' | h'
      · exact h'
      · rw [Array.getElem?_eq_none h'] at h; simp at h
    rw [hb.block g hlt]
    exact h
theorem grow_bel (w : World) (k : Nat) (os : Array Obj) : Below w.heap.size w (Sort.grow (w.drewN k) os) :=
  ⟨rfl, rfl, rfl, by show w.heap.size ≤ (w.heap ++ os).size; rw [Array.size_append]; omega, fun b hb => by show (w.heap ++ os)[b]? = _; rw [Array.getElem?_append_left hb]⟩
theorem builder_below {T e : TypeId} {B b : Nat} {bs : List Value} {w w' : World} (h : Lib.IsBuilder T e B b bs w) (hb : Below w.heap.size w w') : Lib.IsBuilder T e B b bs w' := by
  have one : ∀ {p : Value}, Lib.BuilderAt T e B b p bs w → Lib.BuilderAt T e B b p bs w' := fun {p} h => by
    obtain ⟨h1, v, h2, h3, h4⟩ := h
    refine ⟨h1, v, by rw [hb.block b (Array.getElem?_eq_some_iff.1 h2).1]; exact h2, ⟨h3.1, ?_⟩, h4⟩
    rcases h3.2 with h5 | ⟨g, cap, cur, rfl, hg1, hg2, hg3⟩
    · exact .inl h5
    · exact .inr ⟨g, cap, cur, rfl, hg1, by rw [hb.block g (Array.getElem?_eq_some_iff.1 hg2).1]; exact hg2, hg3⟩
  rcases h with h | h
  · exact .inl (one h)
  · exact .inr (one h)
def itoaB (x : Int) : ByteArray := ⟨(Lib.itoa x).toArray⟩
theorem itoaB_list (x : Int) : (itoaB x).data.toList = Lib.itoa x := rfl
theorem map_itoaB (l : List Int) : (l.map itoaB).map (·.data.toList) = l.map Lib.itoa := by rw [List.map_map]; rfl
theorem joinTail_len21 : ∀ {m : List Int}, (∀ x ∈ m, I64 x) → (Lib.joinTail [44] (m.map Lib.itoa)).length ≤ 22 * m.length
  | [], _ => Nat.zero_le _
  | v :: m, hs => by
    have hv := hs v (by simp)
    have h1 := Lib.itoa_length_le v hv.1 hv.2
    have ih := joinTail_len21 (m := m) (fun x hx => hs x (by simp [hx]))
    have : (Lib.joinTail [44] ((v :: m).map Lib.itoa)) = 44 :: (Lib.itoa v ++ Lib.joinTail [44] (m.map Lib.itoa)) := by simp [Lib.joinTail]
    rw [this, List.length_cons, List.length_append, List.length_cons]
    omega
theorem join_len21 {m : List Int} (hs : ∀ x ∈ m, I64 x) : (Lib.join (m.map Lib.itoa) [44]).length ≤ 22 * m.length := by
  cases m with
  | nil => exact Nat.zero_le _
  | cons v m =>
    have hv := hs v (by simp)
    have h1 := Lib.itoa_length_le v hv.1 hv.2
    have ih := joinTail_len21 (m := m) (fun x hx => hs x (by simp [hx]))
    rw [List.map_cons, Lib.join_cons, List.length_append, List.length_cons]
    omega
theorem str_ext {a b : ByteArray} (h : a.data.toList = b.data.toList) : a = b := by
  obtain ⟨⟨x⟩⟩ := a
  obtain ⟨⟨y⟩⟩ := b
  simp only at h
  rw [h]
theorem str_app (a b : ByteArray) : (a ++ b).data.toList = a.data.toList ++ b.data.toList := by
  rw [ByteArray.data_append, Array.toList_append]
theorem joinW_len {w : List UInt8} {m : List Int} (hs : ∀ x ∈ m, I64 x) : (joinW w m).length ≤ w.length + 22 * m.length := by
  unfold joinW
  split
  · exact Nat.zero_le _
  · rw [List.length_append]; have := join_len21 hs; omega
end Go.St
namespace Go.Proofs.YtpfapfgfchenoaaDoor
open Go.RowKit Go.St
theorem str_info9 : (Tryd.prog.info? 9).map (fun i => (i.zero, i.size, i.bytes)) = some (some (.string ⟨#[]⟩), 1, 16) := by kernel_rfl

set_option maxRecDepth 100000 in
set_option maxHeartbeats 16000000 in
theorem join_c (wd : ByteArray) (hwd : wd.size ≤ 100) (l : List Int) (hl : l.length ≤ 1000000000000) (ok : Nat → Prop) (a : Option Addr) (c : Nat) (w : World) (h : rowRep intS ok w a c l) (htab : Lib.TabIs Tryd.prog w "internal/strconv.uint64pow10" .u64 Lib.pow10Tab) :
    Calls Tryd.prog 25 #[.string wd, .slice a l.length c] w fun e w' => ∃ r : ByteArray, e = .returned (.string r) ∧ r.data.toList = joinW wd.data.toList l ∧ Below w.heap.size w w' := by
  obtain ⟨i0, gi, gz0, gz1, gz2⟩ := info_parts str_info9
  have hlx := h.len_le
  go_enter Tryd.func25, Tryd.ntmps25
  by_cases h0 : l = []
  case pos =>
    have HJ : Hid (joinW wd.data.toList l = []) := Lib.hid (by unfold joinW; rw [if_pos h0])
    have e1 : ((l.length : Int) == 0) = true := by rw [h0]; rfl
    clear h0
    go_wp2
    go_ret; exact ⟨_, rfl, HJ.out.symm, Below.refl _ _⟩
  have HJ : Hid (joinW wd.data.toList l = wd.data.toList ++ Lib.join (l.map Lib.itoa) [44]) := Lib.hid (by unfold joinW; rw [if_neg h0])
  have hlp : 0 < l.length := List.length_pos_iff.2 h0
  have e1 : ((l.length : Int) == 0) = false := by rw [beq_eq_false_iff_ne]; omega
  clear h0
  --CUT1
  go_wp2
  clear e1
  --CUT2
  go_loopw [5, 13] (fun ov iv wr => ∃ (i : Nat) (oa : Option Addr) (oc : Nat), ov = .slice oa i oc ∧ iv = .int .i64 (i : Int) ∧ i ≤ l.length ∧ ownR strS 9 (fun _ => False) w.heap.size wr oa i oc ((l.take i).map itoaB) ∧ Below w.heap.size w wr) (fun _ iv _ => l.length - (intOf iv).toNat)
  case atStart => exact ⟨0, none, 0, rfl, rfl, Nat.zero_le _, by rw [List.take_zero]; exact ownR.nil _ _ _ _ _ (fun _ h => h.elim), Below.refl _ _⟩
  case round =>
    obtain ⟨i, oa, oc, rfl, rfl, hi, hO, hb⟩ := hrel
    rename World => wo
    have hz := hb.size
    by_cases hlt : i < l.length
    case pos =>
      have b1 : (i : Int) < (l.length : Int) := by omega
      have b0 : (0 : Int) ≤ (i : Int) := by omega
      obtain ⟨x, hx⟩ : ∃ x, l[i]? = some x := ⟨_, List.getElem?_eq_getElem hlt⟩
      obtain ⟨xg, xo, rfl, _, hxl, cs, ⟨rfl, hI⟩, hce⟩ := (h.below hb).get hx
      have q0 := hce 0 _ rfl
      rw [show intS.size = 1 from rfl, Nat.add_zero, Nat.mul_one] at q0
      have HTK : Hid ((l.take (i + 1)).map itoaB = (l.take i).map itoaB ++ [itoaB x]) := Lib.hid (by rw [List.take_add_one, hx]; simp)
      have htb := tab_below htab hb
      clear hce hx
      --CUT3
      go_wp2_with fail
      refine (Tryd.strconv_Itoa x hI.1 hI.2 wo htb).mono ?_
      rintro e w3 ⟨rfl, k9, os, rfl⟩
      have hg := grow_bel wo k9 os
      have hO3 := hO.below hg
      have hb3 := hb.trans (hg.mono hz)
      have hz3 := hb3.size
      clear hg hO q0
      generalize Sort.grow (wo.drewN k9) os = w3 at *
      have hx := bel_new w3 (.cells #[.string (itoaB x)] 9)
      have hE : blockIs (w3.alloc (.cells #[.string (itoaB x)] 9)) w3.heap.size 9 #[.string (itoaB x)] := blockIs.new rfl
      have hO4 := hO3.below hx
      have hb4 := hb3.trans (hx.mono hz3)
      have hz4 := hb4.size
      have hsrc := src_one (sh := strS) (ok := fun _ => False) (x := itoaB x) hE rfl
      rw [show (⟨(Lib.itoa x).toArray⟩ : ByteArray) = itoaB x from rfl]
      --CUT4
      go_wp2_with (at_builtin; go_must (refine wpList_appR (sh := strS) (n := i) (m := 1) rfl _ _ 63 rfl 9 i0 (.string ⟨#[]⟩) 16 Tryd.underlying63 gi gz0 gz1 gz2 rfl (by decide) rfl hO4 rfl rfl hsrc (by simp only [maxLen]; omega) (by omega) hz4 ?_); go_must (intro oa5 oc5 w5 hO5 hg5 hd5))
      --CUT5
      case roundEnd =>
        have hb5 := hb4.trans (grown_below hg5 (fun k hk => (hO4.lt k hk).1) hz4)
        go_roundw
        case rel => exact ⟨i + 1, oa5, oc5, rfl, by go_num, by omega, by rw [HTK.out]; exact hO5, hb5⟩
        case measure => simp [intOf] <;> omega
    have hil : i = l.length := by omega
    have b1 : ¬ (i : Int) < (l.length : Int) := by omega
    have hRR := hO.row (ok' := fun _ => True) (fun _ _ => trivial) (fun _ _ => trivial)
    have hall : ∀ x ∈ l, I64 x := fun x hx => by
      obtain ⟨j, hj, rfl⟩ := List.getElem_of_mem hx
      obtain ⟨_, _, _, _, _, cs, ⟨_, hI⟩, _⟩ := h.get (List.getElem?_eq_getElem hj)
      exact hI
    rw [hil, List.take_length] at hRR
    obtain ⟨hr1, hr2, hr3⟩ := hRR
    obtain ⟨bk, off, hoa, _, hbl, hel⟩ := hr3.resolve_left (by intro e; have := congrArg List.length e; simp at this; rw [this] at hlp; simp at hlp)
    have HL := Lib.hid hil
    subst hoa
    have HJL : Hid (Calls Tryd.prog 36 #[.slice (some ⟨bk, off, none⟩) i oc, .string ⟨#[44]⟩] wo fun e w' => e = .returned (.string ⟨(Lib.join (l.map Lib.itoa) [44]).toArray⟩) ∧ Below wo.heap.size wo w') := Lib.hid (by
      have hj := Tryd.strings_Join bk off oc (l.map itoaB) ⟨#[44]⟩ wo (fun j x hx => by
        obtain ⟨cs, rfl, hc⟩ := hel j x hx
        have := hc 0 _ rfl
        simpa [strS] using this) hbl (by rw [List.length_map]; omega) hr1 (by rw [map_itoaB]; have := join_len21 hall; show (Lib.join (l.map Lib.itoa) [44]).length ≤ _; omega)
      rw [map_itoaB, List.length_map, ← hil] at hj
      exact hj)
    have JLEN := Lib.hid (join_len21 hall)
    clear hr1 hr2 hr3 hel hall hil htab
    --CUT6
    go_wp2_with fail
    refine HJL.out.mono ?_
    rintro e w6 ⟨rfl, hb6⟩
    have hbz := hb.trans (hb6.mono hz)
    obtain ⟨J, hJ⟩ : ∃ J : ByteArray, (⟨(Lib.join (l.map Lib.itoa) [44]).toArray⟩ : ByteArray) = J := ⟨_, rfl⟩
    rw [hJ]
    have hJs : wd.size + J.size ≤ 9223372036854775807 := by rw [← hJ, ← str_len ⟨_⟩]; have := JLEN.out; show wd.size + (Lib.join (l.map Lib.itoa) [44]).length ≤ _; omega
    have HJJ : Hid (J.data.toList = Lib.join (l.map Lib.itoa) [44]) := Lib.hid (by rw [← hJ])
    clear hJ HJL
    --CUT7
    go_wp2
    go_ret
    exact ⟨_, rfl, by rw [str_app, HJ.out, HJJ.out], hbz⟩

end Go.Proofs.YtpfapfgfchenoaaDoor
