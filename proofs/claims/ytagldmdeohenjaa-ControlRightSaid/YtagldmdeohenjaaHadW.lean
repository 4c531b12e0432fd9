/-
  The walk of what the law ControlRight asks of each row of orders: a place that is there, an order that can be written, a number of its own.
-/
import Derived.Test.YtagldmdeohenjaaCtlV
import Derived.Test.YtagldmdeohenjaaWireW
import Derived.Test.YtagldmdeohenjaaTopoW
import Derived.WalkKit
import Derived.WalkSpells
import Derived.WalkLawsBesides
import Derived.Lib.Hide
import Derived.Deep.LoopGhost
import Derived.Deep.QuietTactic
import Derived.BigQuiet
import Derived.Deep.RegionWith
import Derived.Handy
set_option linter.unusedSimpArgs false
set_option linter.unusedVariables false
namespace Go.St
open Go.RowKit
theorem wpList_lookupG {P : Program} {κ : Type} [DecidableEq κ] {enc : κ → Value} {ops : Array Oper} {rest : List Oper} {o : Oper} {a : Act} {w : World} {Q : Exit → Act → World → Prop} (hgd : Region.wanted o (yielded ops a.tmps) = true) (m x : Operand) (mt : TypeId) (ho : o.op = .lookup mt m x false)
    (kt et : TypeId) (hm : P.underlying mt = some (.map kt et)) (law : KeyLaw P kt enc) {r : Nat} {ents : List (κ × Value)} (h : mapIs enc w r ents) (k : κ) (z : Value) (hz : ∀ w, (zeroValue et).run P w = .ok z w)
    {v : Value} (hv : (getE k ents).getD z = v) (he : a.eval m = .map (some r)) (hk : a.eval x = enc k) (hn : wpList P ops Q rest (a.put o.dst v) w) : wpList P ops Q (o :: rest) a w :=
  BigFrame.wpList_want hgd fun K hK => by
    have hr := run_lookupM (P := P) mt kt et hm law h k z hz
    rw [hv] at hr
    unfold Oper.wp execOp
    simp only [ho, he, hk, Sem.run_bind, hr, Result.andThen_ok, Sem.run_pure]
    exact hK _ _ hn
theorem findE_none {k : Int} : ∀ {ents : List (Int × Value)} {i : Nat}, (∀ e ∈ ents, e.1 ≠ k) → findE k ents i = none
  | [], _, _ => rfl
  | (a, v) :: r, i, h => by
    unfold findE
    rw [if_neg (fun e => h (a, v) (by simp) e.symm)]
    exact findE_none fun e he => h e (by simp [he])
theorem setE_mem {k : Int} {v : Value} : ∀ {ents : List (Int × Value)} {e : Int × Value}, e ∈ setE k v ents → e ∈ ents ∨ e.1 = k
  | [], e, h => by simp [setE] at h; exact .inr (by rw [h])
  | (a, u) :: r, e, h => by
    unfold setE at h
    by_cases hk : k = a
    · rw [if_pos hk] at h
      rcases List.mem_cons.1 h with rfl | h
      · exact .inr hk.symm
      · exact .inl (by simp [h])
    · rw [if_neg hk] at h
      rcases List.mem_cons.1 h with rfl | h
      · exact .inl (by simp)
      · rcases setE_mem h with h | h
        · exact .inl (by simp [h])
        · exact .inr h
/-- what is had now: as before, or a number told -/
def Took (a b : Int) (ents ents' : List (Int × Value)) : Prop := ∀ e ∈ ents', e ∈ ents ∨ (a < e.1 ∧ e.1 ≤ b)
/-- numbers that were had: none of those behind a, up to b -/
def HadBut (a b : Int) (ents : List (Int × Value)) : Prop := ∀ e ∈ ents, e.1 ≤ a ∨ b < e.1
end Go.St
namespace Go.Proofs.Ytagldmdeohenjaa
open Go.RowKit Go.St
theorem int_lawH : KeyLaw Try.prog 3 (Value.int .i64) := KeyLaw.int Try.underlying3

set_option maxRecDepth 100000 in
set_option maxHeartbeats 8000000 in
theorem had_c (t : Topo) (a b : Int) (l : List To) (hl : Go.St.Told t a b l) (ha : 0 ≤ a) (hb : b ≤ 1000) (w : World) (oa : Option Addr) (oc T H M : Nat) (la : Option Addr) (ll lc : Nat) (ents : List (Int × Value)) (hr : rowRep toS (fun x => x ≠ M) w oa oc l) (hT : blockIs w T 24 #[.int .i64 t.n, .slice la ll lc])
    (hH : blockIs w H 59 #[.map (some M)]) (hM : mapIs (Value.int .i64) w M ents) (hhad : HadBut a b ents) (hTM : T ≠ M) (hHM : H ≠ M) :
    Calls Try.prog 18 #[.slice oa l.length oc, .pointer (some ⟨T, 0, none⟩), .pointer (some ⟨H, 0, none⟩)] w fun e w' => e = .returned (.bool true) ∧ (∃ ents', mapIs (Value.int .i64) w' M ents' ∧ Took a b ents ents') ∧ Frm (fun x => x ≠ M) M w w' := by
  have hlx := hr.len_le
  have hMl := hM.lt
  have hbl := Lib.hid hl.num
  have hbb := hl.num
  have hal : a + (l.length : Int) ≤ 1000 := by omega
  clear hbb
  go_enter Try.func18, Try.ntmps18
  have hE0 : Hid (∀ e ∈ ents, e ∈ ents ∨ (a < e.1 ∧ e.1 ≤ a + ((0 : Nat) : Int))) := fun e he => .inl he
  have hlaw := int_lawH
  have HL := Lib.hid hl
  have HH := Lib.hid hhad
  clear hl hhad
  go_wp2
  go_loopw [6, 9] (fun _ idx wr => ∃ (j : Nat) (es : List (Int × Value)), idx = .int .i64 j ∧ j ≤ l.length ∧ mapIs (Value.int .i64) wr M es ∧ Hid (∀ e ∈ es, e ∈ ents ∨ (a < e.1 ∧ e.1 ≤ a + (j : Int))) ∧ Frm (fun x => x ≠ M) M w wr) (fun _ idx _ => l.length - (intOf idx).toNat)
  case atStart => exact ⟨0, ents, rfl, Nat.zero_le _, hM, hE0, Frm.refl _ _ _⟩
  case round =>
    clear hE0 hM
    obtain ⟨j, es, rfl, hj, hMo, hE, hF⟩ := hrel
    rename World => wo
    have hsw0 := hF.size
    by_cases hlt : j < l.length
    case neg =>
      obtain rfl : j = l.length := by omega
      have b1 : ¬ ((l.length : Nat) : Int) < (l.length : Int) := by omega
      have hEE := hE.out
      rw [← hbl.out] at hEE
      have hEX : Hid (Took a b ents es) := hEE
      clear hEE
      go_wp2
      go_ret; exact ⟨rfl, ⟨es, hMo, hEX.out⟩, hF⟩
    obtain ⟨x, hxj⟩ : ∃ x, l[j]? = some x := ⟨_, List.getElem?_eq_getElem hlt⟩
    have hto := hF.blk hT (.inl hTM)
    have hho := hF.blk hH (.inl hHM)
    obtain ⟨g, off, ra, rc, fb, fd, rfl, hgl, hsw, hor, hce⟩ := toRow_get (hF.row hr) hxj
    obtain ⟨e0, e1, e2, e3, e4, e5⟩ := hce wo (Below.refl _ _)
    have hok := HL.out.ok x (List.mem_of_getElem? hxj)
    have hxn := HL.out.run j x hxj
    have hww : wireWrong x.order = 0 := hok.2.2.right (by omega) (by omega)
    have hs1 := hok.1
    have hs2 := hok.2.1
    have hgn : (getE x.order.num es).getD (.bool false) = .bool false := by
      unfold getE
      rw [findE_none (fun e he hq => by
        rcases hE.out e he with h1 | ⟨h1, h2⟩
        · have := hbl.out; rcases HH.out e h1 with h1 | h1 <;> omega
        · omega)]
      rfl
    have hE2 : Hid (∀ e ∈ setE x.order.num (.bool true) es, e ∈ ents ∨ (a < e.1 ∧ e.1 ≤ a + ((j + 1 : Nat) : Int))) := fun e he => by
      rcases setE_mem he with h1 | h1
      · rcases hE.out e h1 with h2 | ⟨h2, h3⟩
        · exact .inl h2
        · exact .inr ⟨h2, by omega⟩
      · exact .inr ⟨by omega, by omega⟩
    have b1 : (j : Int) < (l.length : Int) := by omega
    have b0 : (0 : Int) ≤ (j : Int) := by omega
    have b2 : ¬ x.sw < 0 := by omega
    have b3 : ¬ t.n ≤ x.sw := by omega
    have b4 : ¬ x.sw ≥ t.n := by omega
    obtain ⟨xs, ⟨xk, xn, xv, xr, xf⟩⟩ := x
    dsimp only at hsw hor e0 e1 e2 e3 e4 e5 hgn hE2 b2 b3 b4
    have hbx : Below wo.heap.size wo (wo.alloc (.cells #[.int .i64 xs, .int .i64 xk, .int .i64 xn, .int .i64 xv, .slice ra xr.length rc, .slice fb xf.length fd] 41)) := (Below.refl _ _).alloc (Nat.le_refl _) _
    have hX5 : blockIs (wo.alloc (.cells #[.int .i64 xs, .int .i64 xk, .int .i64 xn, .int .i64 xv, .slice ra xr.length rc, .slice fb xf.length fd] 41)) wo.heap.size 41 #[.int .i64 xs, .int .i64 xk, .int .i64 xn, .int .i64 xv, .slice ra xr.length rc, .slice fb xf.length fd] := blockIs.new rfl
    have hwc := wireWrong_c ⟨xk, xn, xv, xr, xf⟩ _ _ _ (orderS.below hor hbx)
    rw [hww] at hwc
    have HWC := Lib.hid hwc
    obtain ⟨t1, t2⟩ := hto.cells
    obtain ⟨h1, h2⟩ := hho.cells
    have htl := hto.lt
    have hhl := hho.lt
    have hml := hMo.lt
    clear hce hxj hok hxn hww hwc hor hE hs1 hs2
    go_wp2_with fail
    --CUT1
    refine HWC.out.mono ?_
    rintro e w6 ⟨rfl, hb6⟩
    have hX6 := hX5.under hb6
    have hT6 := (hto.under hbx).under hb6
    have hH6 := (hho.under hbx).under hb6
    have hM6 := (hMo.below hbx hml).below hb6 (by simp; omega)
    have hF6 := hF.trans ((Frm.of (W := fun x => x ≠ M) hbx (Nat.le_of_lt hml)).trans (Frm.of hb6 (by simp; omega)))
    have hs6 := hb6.size
    have hs5 : (wo.alloc (.cells #[.int .i64 xs, .int .i64 xk, .int .i64 xn, .int .i64 xv, .slice ra xr.length rc, .slice fb xf.length fd] 41)).heap.size = wo.heap.size + 1 := by simp
    clear HWC t1 t2 h1 h2 e0 e1 e2 e3 e4 e5 hF hMo hX5 hbx hb6 hto hho
    obtain ⟨t1, t2⟩ := hT6.cells
    obtain ⟨h1, h2⟩ := hH6.cells
    obtain ⟨x1, x2⟩ := hX6.cells
    have hxl := hX6.lt
    have htl := hT6.lt
    have hhl := hH6.lt
    have hml := hM6.lt
    clear hs5 hs6
    go_wp2_with (first
      | (refine wpList_lookupG (enc := Value.int .i64) (by kernel_rfl) _ _ 59 rfl 3 4 Try.underlying59 hlaw hM6 xn (.bool false) FZ.out hgn rfl rfl ?_)
      | (refine wpList_insertM (enc := Value.int .i64) rfl _ _ _ 59 (Or.inr rfl) 3 4 Try.underlying59 hlaw hM6 xn (.bool true) rfl rfl rfl ?_; go_must (intro w7 hM7 hg7)))
    --CUT2
    case roundEnd =>
      go_roundw
      case rel => exact ⟨j + 1, _, by go_num, by omega, hM7, hE2, hF6.trans (Frm.grown hg7 (fun k hk => ⟨fun h => h (by simpa using hk.symm), by simp at hk; omega⟩) (by omega))⟩
      case measure => simp [intOf] <;> omega

end Go.Proofs.Ytagldmdeohenjaa
