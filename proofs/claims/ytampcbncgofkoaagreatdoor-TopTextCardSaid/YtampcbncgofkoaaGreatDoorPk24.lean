/- Texts of this proof, one behind the other. -/
import Derived.Test.YtampcbncgofkoaaGreatDoorPk20
set_option linter.unusedSimpArgs false
set_option linter.unusedVariables false
set_option maxRecDepth 100000
set_option maxHeartbeats 16000000
namespace Go.St
open Go.RowKit
structure A4i (w:World) (sb fb fo:Nat) (t:C5) (f:E0) (la va na:Option Addr) (lc vc nc:Nat):Prop where
 links:A8 A0e (fun b=>b≠sb) w la lc t.links
 c0:w.cell? ⟨fb,fo,none⟩=some (.int .i64 f.src)
 c1:w.cell? ⟨fb,fo+1,none⟩=some (.int .i64 f.dst)
 c2:w.cell? ⟨fb,fo+2,none⟩=some (.slice va f.via.length vc)
 c3:w.cell? ⟨fb,fo+3,none⟩=some (.slice na f.no.length nc)
 via:A8 C2 (fun b=>b≠sb) w va vc f.via
 no:A8 C2 (fun b=>b≠sb) w na nc f.no
 fs:fb≠sb
 fl:fb<w.heap.size
 sl:sb<w.heap.size
theorem A4i.but {w w':World} {sb fb fo:Nat} {t:C5} {f:E0} {la va na:Option Addr} {lc vc nc:Nat} (h:A4i w sb fb fo t f la va na lc vc nc) (hb:But sb w w'):A4i w' sb fb fo t f la va na lc vc nc:=
 ⟨h.links.but hb,hb.cell h.fl h.fs h.c0,hb.cell h.fl h.fs h.c1,hb.cell h.fl h.fs h.c2,hb.cell h.fl h.fs h.c3,h.via.but hb,h.no.but hb,h.fs,Nat.lt_of_lt_of_le h.fl hb.size,Nat.lt_of_lt_of_le h.sl hb.size⟩
def A67 (w:World) (sb:Nat) (ba:Option Addr) (bl bc:Nat):Option (List Int)→Prop
 |none=>ba=none∧bl=0∧bc=0
 |some b=>ba.isSome=true∧bl=b.length∧A8 C2 (fun k=>sb<k) w ba bc b
theorem B2c {sb:Nat} {w w':World} {ao:Option Addr} {cap:Nat} {xs:List Int} (h:A8 C2 (fun b=>sb<b) w ao cap xs) (hb:But sb w w'):A8 C2 (fun b=>sb<b) w' ao cap xs:=
 h.mono fun b hlt hk=>⟨hk,hb.block b hlt (Nat.ne_of_gt hk)⟩
theorem A67.but {w w':World} {sb:Nat} {ba:Option Addr} {bl bc:Nat} {o:Option (List Int)} (h:A67 w sb ba bl bc o) (hb:But sb w w'):A67 w' sb ba bl bc o:=by
  cases o with
  |none=>exact h
  |some b=>exact ⟨h.1,h.2.1,B2c h.2.2 hb⟩
def A1f (ty:TypeId) (w:World) (sb fb fo:Nat) (n:Int) (la:Option Addr) (ll lc:Nat) (st:Found):Prop:=
 ∃ ba bl bc,A6 w sb ty #[.int .i64 n,.slice la ll lc,.pointer (some ⟨fb,fo,none⟩),.slice ba bl bc,.int .i64 st.2]∧A67 w sb ba bl bc st.1
end Go.St
namespace Go.Proofs.YtampcbncgofkoaaGreatDoor
open Go.RowKit Go.St
theorem B5w (t : C5) (f : E0) (sb fb fo : Nat) (la va na : Option Addr) (lc vc nc : Nat) (hn8 : t.n ≤ 8) (hcb : ∀ a b, 0 ≤ E9 t a b ∧ E9 t a b ≤ 1000) (hvl : f.via.length ≤ 1000) :
    ∀ (fuel : Nat) (p : List Int) (cost : Int) (met : Nat) (st : St.Found) (w : World) (pa : Option Addr) (pc : Nat), A4i w sb fb fo t f la va na lc vc nc → A1f 99 w sb fb fo t.n la t.links.length lc st →
      A8 C2 (fun b => b ≠ sb) w pa pc p → p ≠ [] → p.Nodup → (∀ s ∈ p, 0 ≤ s ∧ s < t.n) → t.n.toNat + 1 ≤ fuel + p.length → 0 ≤ cost → cost ≤ 1000 * p.length → met ≤ p.length →
      Calls Tryz.prog 28 #[.pointer (some ⟨sb, 0, none⟩), .slice pa p.length pc, .int .i64 cost, .int .i64 (met : Int)] w fun e w' => e = .returned (.tuple #[]) ∧ But sb w w' ∧ A1f 99 w' sb fb fo t.n la t.links.length lc (onS t f fuel p cost met st) := by
  intro fuel
  induction fuel with
  | zero =>
    intro p cost met st w pa pc _ _ _ _ hnd hrg hfu
    have := T1 hnd hrg
    omega
  | succ fuel ih =>
    intro p cost met st w pa pc hin hbest hp hpne hnd hrg hfu hc0 hc1 hmet
    have hpl := T1 hnd hrg
    have hp8 : p.length ≤ 8 := by omega
    have hp0 : 0 < p.length := List.length_pos_iff.2 hpne
    obtain ⟨ba, bl, bc, hB, hbi⟩ := hbest
    obtain ⟨r1, r2⟩ := hB.cells
    have f0 := hin.c0
    have f1 := hin.c1
    have f2 := hin.c2
    have f3 := hin.c3
    obtain ⟨pb, po, rfl, hps, hpb, _⟩ := hp.get (List.getElem?_eq_getElem hp0)
    have hlast : w.cell? ⟨pb, po + (p.length - 1), none⟩ = some (.int .i64 (p.getLastD 0)) := by
      have hl : p[p.length - 1]? = some (p.getLastD 0) := by rw [← List.getLast?_eq_getElem?, A3q hpne]
      obtain ⟨b', o', hbo, _, _, cs, ⟨rfl, _⟩, hce⟩ := hp.get hl
      obtain ⟨rfl, rfl⟩ : pb = b' ∧ po = o' := by simpa using hbo
      have := hce 0 _ rfl
      simpa only [C2, Nat.mul_one, Nat.add_zero] using this
    have hcx := hp.1
    have k1 : IntKind.i64.wrap ((p.length : Int) - 1) = ((p.length - 1 : Nat) : Int) := by rw [IntWalk.i64_in _ (by omega)]; omega
    have k2 : (0 : Int) ≤ ((p.length - 1 : Nat) : Int) := by omega
    have k3 : ((p.length - 1 : Nat) : Int) < (p.length : Int) := by omega
    have k4 : (((p.length - 1 : Nat) : Int)).toNat = p.length - 1 := by omega
    obtain ⟨so, sc⟩ := st
    have hnil := O7 (P := Tryz.prog) 72 3 Tryz.underlying72
    by_cases h1 : so.isSome ∧ sc < cost
    · have hon : onS t f (fuel + 1) p cost met (so, sc) = (so, sc) := by unfold onS; rw [if_pos h1]
      rw [hon]
      obtain ⟨b, rfl⟩ := Option.isSome_iff_exists.1 h1.1
      obtain ⟨hba, rfl, hbr⟩ := hbi
      obtain ⟨ba, rfl⟩ := Option.isSome_iff_exists.1 hba
      have hgt := h1.2
      clear h1 hon ih
      dsimp only at *
      go_enter Tryz.func28, Tryz.ntmps28
      go_wp2
      refine bodyPost_ret (v := .tuple #[]) (by simp [results, Tryz.results28, go_sem]) rfl ⟨rfl, But.refl _ _, ⟨some ba, b.length, bc, hB, rfl, rfl, hbr⟩⟩
    by_cases h2 : p.getLastD 0 = f.dst
    · rw [h2] at hlast
      by_cases h3 : met = f.via.length ∧ (so = none ∨ cost < sc)
      · have hon : onS t f (fuel + 1) p cost met (so, sc) = (some p, cost) := by unfold onS; rw [if_neg h1, if_pos h2, if_pos h3]
        rw [hon]
        have m1 : ((met : Int) == (f.via.length : Int)) = true := by rw [beq_iff_eq]; omega
        cases so with
        | none =>
          obtain ⟨rfl, rfl, rfl⟩ := hbi
          clear h1 hon h2 h3
          dsimp only at *
          go_enter Tryz.func28, Tryz.ntmps28
          go_wp2_with fail
          refine (A7l p _ _ pc _ hp (by simp) (by omega)).mono ?_
          rintro e w1 ⟨ao, cap, rfl, hr1, hne, hb1⟩
          have hB1 := hB.under hb1
          obtain ⟨z1, z2⟩ := hB1.cells
          clear ih r1 r2
          go_wp2
          have hao : ao.isSome = true := by cases ao with | none => simp at hne | some _ => rfl
          have hr2 : A8 C2 (fun k => sb < k) w1 ao cap p := hr1.mono fun b _ hk => ⟨by have := hin.sl; omega, rfl⟩
          refine bodyPost_ret (v := .tuple #[]) (by simp [results, Tryz.results28, go_sem]) rfl ⟨rfl, (But.of hb1).trans ((But.set w1 3 _).trans (But.set _ 4 _)), ⟨ao, p.length, cap, (hB1.set 3 _).set 4 _, hao, rfl, B2c hr2 ((But.set w1 3 _).trans (But.set _ 4 _))⟩⟩
        | some b =>
          obtain ⟨hba, rfl, hbr⟩ := hbi
          obtain ⟨ba, rfl⟩ := Option.isSome_iff_exists.1 hba
          have hlt : cost < sc := by rcases h3.2 with h | h; · cases h
                                     · exact h
          have hge : ¬ sc < cost := by omega
          clear h1 hon h2 h3
          dsimp only at *
          go_enter Tryz.func28, Tryz.ntmps28
          go_wp2_with fail
          refine (A7l p _ _ pc _ hp (by simp) (by omega)).mono ?_
          rintro e w1 ⟨ao, cap, rfl, hr1, hne, hb1⟩
          have hB1 := hB.under hb1
          obtain ⟨z1, z2⟩ := hB1.cells
          clear ih r1 r2
          go_wp2
          have hao : ao.isSome = true := by cases ao with | none => simp at hne | some _ => rfl
          have hr2 : A8 C2 (fun k => sb < k) w1 ao cap p := hr1.mono fun b _ hk => ⟨by have := hin.sl; omega, rfl⟩
          refine bodyPost_ret (v := .tuple #[]) (by simp [results, Tryz.results28, go_sem]) rfl ⟨rfl, (But.of hb1).trans ((But.set w1 3 _).trans (But.set _ 4 _)), ⟨ao, p.length, cap, (hB1.set 3 _).set 4 _, hao, rfl, B2c hr2 ((But.set w1 3 _).trans (But.set _ 4 _))⟩⟩
      · have hon : onS t f (fuel + 1) p cost met (so, sc) = (so, sc) := by unfold onS; rw [if_neg h1, if_pos h2, if_neg h3]
        rw [hon]
        cases so with
        | none =>
          obtain ⟨rfl, rfl, rfl⟩ := hbi
          have m1 : ((met : Int) == (f.via.length : Int)) = false := by rw [beq_eq_false_iff_ne]; intro h; exact h3 ⟨by omega, .inl rfl⟩
          clear h1 hon h2 h3 ih
          dsimp only at *
          go_enter Tryz.func28, Tryz.ntmps28
          go_wp2
          refine bodyPost_ret (v := .tuple #[]) (by simp [results, Tryz.results28, go_sem]) rfl ⟨rfl, But.refl _ _, ⟨none, 0, 0, hB, rfl, rfl, rfl⟩⟩
        | some b =>
          obtain ⟨hba, rfl, hbr⟩ := hbi
          obtain ⟨ba, rfl⟩ := Option.isSome_iff_exists.1 hba
          have hge : ¬ sc < cost := fun h => h1 ⟨rfl, h⟩
          by_cases hm : met = f.via.length
          · have m1 : ((met : Int) == (f.via.length : Int)) = true := by rw [beq_iff_eq]; omega
            have hnl : ¬ cost < sc := fun h => h3 ⟨hm, .inr h⟩
            clear h1 hon h2 h3 ih hm
            dsimp only at *
            go_enter Tryz.func28, Tryz.ntmps28
            go_wp2
            refine bodyPost_ret (v := .tuple #[]) (by simp [results, Tryz.results28, go_sem]) rfl ⟨rfl, But.refl _ _, ⟨some ba, b.length, bc, hB, rfl, rfl, hbr⟩⟩
          · have m1 : ((met : Int) == (f.via.length : Int)) = false := by rw [beq_eq_false_iff_ne]; omega
            clear h1 hon h2 h3 ih hm
            dsimp only at *
            go_enter Tryz.func28, Tryz.ntmps28
            go_wp2
            refine bodyPost_ret (v := .tuple #[]) (by simp [results, Tryz.results28, go_sem]) rfl ⟨rfl, But.refl _ _, ⟨some ba, b.length, bc, hB, rfl, rfl, hbr⟩⟩
    have hon : onS t f (fuel + 1) p cost met (so, sc) = I7 t f p cost met (onS t f fuel) t.n.toNat (so, sc) := by unfold onS; rw [if_neg h1, if_neg h2]
    rw [hon]
    have hst : Hid ((so, sc) = I7 t f p cost met (onS t f fuel) 0 (so, sc)) := rfl
    have h2' : (p.getLastD 0 == f.dst) = false := by rw [beq_eq_false_iff_ne]; exact h2
    have hn1 : 1 ≤ t.n := by have := hrg _ (List.getElem_mem hp0); omega
    have hB0 : A1f 99 w sb fb fo t.n la t.links.length lc (so, sc) := ⟨ba, bl, bc, hB, hbi⟩
    have hpick : ba = none ∧ bl = 0 ∧ bc = 0 ∨ ∃ a, ba = some a ∧ ¬ sc < cost := by
      cases so with
      | none => exact .inl hbi
      | some b =>
        obtain ⟨a, ha⟩ := Option.isSome_iff_exists.1 hbi.1
        exact .inr ⟨a, ha, fun h => h1 ⟨rfl, h⟩⟩
    clear hbi h1 hon
    have hxx : Hid (∃ x, x = p.getLastD 0) := ⟨_, rfl⟩
    obtain ⟨x, hx⟩ := hxx.out
    rw [← hx] at hlast h2' h2
    have HX := Lib.hid hx
    clear hx hxx h2
    dsimp only at *
    go_enter Tryz.func28, Tryz.ntmps28
    rcases hpick with ⟨rfl, rfl, rfl⟩ | ⟨a, rfl, hge⟩
    · go_wp2
      clear r1 r2 hnil
      go_loopw [9, 10, 11, 12, 80] (fun _ _ _ _ i wr => ∃ (j : Nat) (sj : St.Found), j ≤ t.n.toNat ∧ i = .int .i64 j ∧ Hid (sj = I7 t f p cost met (onS t f fuel) j (so, sc)) ∧ But sb w wr ∧ A1f 99 wr sb fb fo t.n la t.links.length lc sj) (fun _ _ _ _ i _ => t.n.toNat - (intOf i).toNat)
      case atStart => exact ⟨0, _, Nat.zero_le _, rfl, hst, But.refl _ _, hB0⟩
      case round =>
        obtain ⟨j, sj, hj, rfl, hall, hbut, bj, blj, bcj, hBj, hbj⟩ := hrel
        by_cases hlt : j < t.n.toNat
        · have hinr := hin.but hbut
          obtain ⟨s1, s2⟩ := hBj.cells
          have d1 := hinr.c1
          have d2 := hinr.c2
          have d3 := hinr.c3
          have hpr := hp.but hbut
          have hsz := hinr.sl
          have b0 : (0 : Int) ≤ (j : Int) := by omega
          have b1 : (j : Int) < t.n := by omega
          have hnext : Hid (I7 t f p cost met (onS t f fuel) (j + 1) (so, sc) = Y1 t f p cost met (onS t f fuel) j sj) := by show _ = _; rw [I7, ← hall.out]
          clear hall
          have hcost := fun w' (hb : But sb wr w') => B3e t [.int .i64 t.n, .slice la t.links.length lc] (fun b => b ≠ sb) x j w' ⟨la, lc, rfl, I64.small (by omega) (by omega), hinr.links.but hb⟩
          obtain ⟨cj0, cj1⟩ := hcb x j
          have HCC := Lib.hid hcost
          clear hcost f0 f1 f2 f3
          go_wp2_with fail
          refine (HCC.out _ (But.refl _ _)).mono ?_
          rintro e w1 ⟨rfl, hb1⟩
          have ho1 : But sb wr w1 := But.of hb1
          have hB1 := hBj.under hb1
          obtain ⟨z1, z2⟩ := hB1.cells
          have hin1 := hinr.but ho1
          have g1 := hin1.c1
          have g2 := hin1.c2
          have g3 := hin1.c3
          have hp1 := hpr.but ho1
          have hz1 := hin1.sl
          have hchild : Y1 t f p cost met (onS t f fuel) j sj = (if E9 t x j = 0 ∨ (j : Int) ∈ p ∨ (j : Int) ∈ f.no then sj else match N8 (j : Int) f.via with
              | none => onS t f fuel (p ++ [(j : Int)]) (cost + E9 t x j) met sj
              | some i => if i = met then onS t f fuel (p ++ [(j : Int)]) (cost + E9 t x j) (met + 1) sj else sj) := by unfold Y1; dsimp only; rw [← HX.out]; rfl
          generalize E9 t x j = c at *
          clear s1 s2 d1 d2 d3 HCC hb1
          have stay : sj = Y1 t f p cost met (onS t f fuel) j sj → ∃ (j' : Nat) (s' : St.Found), j' ≤ t.n.toNat ∧ (Value.int .i64 ((j : Int) + 1) = .int .i64 j') ∧ Hid (s' = I7 t f p cost met (onS t f fuel) j' (so, sc)) ∧ But sb w w1 ∧ A1f 99 w1 sb fb fo t.n la t.links.length lc s' :=
            fun h => ⟨j + 1, sj, by omega, by go_num, by show _ = _; rw [hnext.out]; exact h, hbut.trans ho1, bj, blj, bcj, hB1, hbj.but ho1⟩
          by_cases q1 : c = 0
          · have HS := Lib.hid (stay (by rw [hchild, if_pos (.inl q1)]))
            have q1' : (c == 0) = true := by rw [beq_iff_eq]; exact q1
            clear stay hchild hnext q1
            go_wp2
            case roundEnd =>
              go_roundw
              case rel => exact HS.out
              case measure => simp [intOf]; omega
          have q1' : (c == 0) = false := by rw [beq_eq_false_iff_ne]; exact q1
          have HP := Lib.hid (A39 p (j : Int) (fun b => b ≠ sb) _ pc w1 hp1)
          by_cases q2 : (j : Int) ∈ p
          · have HS := Lib.hid (stay (by rw [hchild, if_pos (.inr (.inl q2))]))
            rw [decide_eq_true q2] at HP
            clear stay hchild hnext q1 q2
            go_wp2_with fail
            refine HP.out.mono ?_
            rintro e w1 ⟨rfl, rfl⟩
            go_wp2
            case roundEnd =>
              go_roundw
              case rel => exact HS.out
              case measure => simp [intOf]; omega
          rw [decide_eq_false q2] at HP
          have HN := Lib.hid (X3 f.no (j : Int) (fun b => b ≠ sb) na nc w1 hin1.no)
          by_cases q3 : (j : Int) ∈ f.no
          · have HS := Lib.hid (stay (by rw [hchild, if_pos (.inr (.inr q3))]))
            rw [decide_eq_true q3] at HN
            clear stay hchild hnext q1 q2 q3
            go_wp2_with fail
            refine HP.out.mono ?_
            rintro e w1 ⟨rfl, rfl⟩
            go_wp2_with fail
            refine HN.out.mono ?_
            rintro e w1 ⟨rfl, rfl⟩
            go_wp2
            case roundEnd =>
              go_roundw
              case rel => exact HS.out
              case measure => simp [intOf]; omega
          rw [decide_eq_false q3] at HN
          rw [if_neg (by simp [q1, q2, q3])] at hchild
          have HI := Lib.hid (A29 f.via (j : Int) (fun b => b ≠ sb) va vc w1 hin1.via)
          have hlen : (p ++ [(j : Int)]).length = p.length + 1 := by simp
          have hnd' : (p ++ [(j : Int)]).Nodup := by
            rw [List.nodup_append]
            exact ⟨hnd, List.nodup_cons.2 ⟨by simp, List.nodup_nil⟩, fun a ha b hb e => by
              have hb' : b = (j : Int) := by simpa using hb
              exact q2 (hb' ▸ e ▸ ha)⟩
          have hrg' : ∀ s ∈ p ++ [(j : Int)], 0 ≤ s ∧ s < t.n := by
            intro s hs
            rcases List.mem_append.1 hs with h | h
            · exact hrg s h
            · simp at h; omega
          have IH : ∀ (m' : Nat) (w' : World) (pa' : Option Addr) (pc' : Nat), m' ≤ p.length + 1 → But sb w1 w' → A1f 99 w' sb fb fo t.n la t.links.length lc sj → A8 C2 (fun b => b ≠ sb) w' pa' pc' (p ++ [(j : Int)]) →
              Calls Tryz.prog 28 #[.pointer (some ⟨sb, 0, none⟩), .slice pa' (p.length + 1) pc', .int .i64 (cost + c), .int .i64 (m' : Int)] w' fun e w'' => e = .returned (.tuple #[]) ∧ But sb w' w'' ∧ A1f 99 w'' sb fb fo t.n la t.links.length lc (onS t f fuel (p ++ [(j : Int)]) (cost + c) m' sj) := by
            intro m' w' pa' pc' hm' hb' hbw' hr'
            have := ih (p ++ [(j : Int)]) (cost + c) m' sj w' pa' pc' (hin1.but hb') hbw' hr' (by simp) hnd' hrg' (by rw [hlen]; omega) (by omega) (by rw [hlen]; omega) (by rw [hlen]; exact hm')
            rwa [hlen] at this
          have happ : A8 C2 (fun b => b ≠ sb) w1 (some ⟨pb, po, none⟩) p.length p := ⟨Nat.le_refl _, by simp only [maxLen]; omega, hp1.2.2⟩
          obtain ⟨i0, hi, hi0, hi1, hi2⟩ := info_parts P6
          have hby : ∀ z ∈ [(j : Int)], I64 z := by intro z hz; simp only [List.mem_cons, List.not_mem_nil, or_false] at hz; subst hz; exact I64.small (by omega) (by omega)
          have hI0 : A1r (j : Int) f.via = (match N8 (j : Int) f.via with | none => -1 | some i => (i : Int)) := rfl
          have hcs : IntKind.i64.wrap (cost + c) = cost + c := IntWalk.i64_in _ (by omega)
          have hkp : (0 : Int) ≤ (p.length : Int) := by omega
          have hkq : (p.length : Int) ≤ (pc : Int) := by omega
          have hkr : ((p.length : Int)).toNat = p.length := by omega
          have hkb : But sb w1 (w1.alloc (.cells #[.int .i64 (j : Int)] 3)) := But.of (by (repeat' (first | with_reducible (first | exact Below.refl _ _ | assumption | refine Below.drew ?_ | refine A3 ?_ _ | refine Below.alloc ?_ ?_ _ | refine Below.setCell ?_ ?_ _) | omega | (simp; done) | (simp; omega))))
          clear hnd hrg hfu hlast k1 k2 k3 k4 hin hrg' hnd' q1 q2 q3
          cases hix : N8 (j : Int) f.via with
          | none =>
            rw [hix] at hchild hI0
            dsimp only at hchild hI0
            rw [hI0] at HI
            have HG : Hid (onS t f fuel (p ++ [(j : Int)]) (cost + c) met sj = I7 t f p cost met (onS t f fuel) (j + 1) (so, sc)) := by show _ = _; rw [hnext.out, hchild]
            have HH := Lib.hid (IH met)
            clear stay hchild hnext IH hI0 hix
            go_wp2_with fail
            refine HP.out.mono ?_
            rintro e w1 ⟨rfl, rfl⟩
            go_wp2_with fail
            refine HN.out.mono ?_
            rintro e w1 ⟨rfl, rfl⟩
            go_wp2_with fail
            refine HI.out.mono ?_
            rintro e w1 ⟨rfl, rfl⟩
            go_wp2_with (at_builtin; go_must (refine S8 (ok' := fun _ => False) rfl _ _ 72 rfl 3 i0 Tryz.underlying72 hi hi0 hi1 hi2 (base := w1.heap.size) rfl (happ.but hkb) rfl (List.length_pos_iff.2 hpne) rfl rfl (by decide) (D7.ints [(j : Int)] (by simp) hby) (by omega) (by simp) ?_); go_must (
              intro cap2 w2 hown2 hbb2
              have ho2 : But sb w1 w2 := hkb.trans (But.of hbb2)
              have hr2 : A8 C2 (fun b => b ≠ sb) w2 (some ⟨w1.heap.size + 1, 0, none⟩) cap2 (p ++ [(j : Int)]) := (by have hh := hown2.row (ok' := fun b => b ≠ sb) (fun _ h => h.elim) (fun k hk => by have := (hown2.lt k hk).1; omega); rwa [show (w1.alloc (.cells #[.int .i64 (j : Int)] 3)).heap.size = w1.heap.size + 1 by simp] at hh)))
            have hbest2 : A1f 99 w2 sb fb fo t.n la t.links.length lc sj := ⟨bj, blj, bcj, (hB1.alloc _).under hbb2, (hbj.but ho1).but ho2⟩
            clear hown2 hbb2 z1 z2 g1 g2 g3
            refine (HH.out w2 (some ⟨w1.heap.size + 1, 0, none⟩) cap2 (by omega) ho2 hbest2 hr2).mono ?_
            rintro e w3 ⟨rfl, ho3, hbest3⟩
            clear HH HP HN HI hbest2 hr2 happ
            go_wp2
            case roundEnd =>
              go_roundw
              case rel => exact ⟨j + 1, _, by omega, by go_num, HG, ((hbut.trans ho1).trans ho2).trans ho3, hbest3⟩
              case measure => simp [intOf]; omega
          | some i =>
            rw [hix] at hchild hI0
            dsimp only at hchild hI0
            rw [hI0] at HI
            have hil := (List.getElem?_eq_some_iff.1 (S2 hix)).1
            by_cases him : i = met
            · rw [if_pos him] at hchild
              subst him
              have HG : Hid (onS t f fuel (p ++ [(j : Int)]) (cost + c) (i + 1) sj = I7 t f p cost i (onS t f fuel) (j + 1) (so, sc)) := by show _ = _; rw [hnext.out, hchild]
              have HH := IH (i + 1)
              rw [show ((i + 1 : Nat) : Int) = (i : Int) + 1 by omega] at HH
              have HH := Lib.hid HH
              clear stay hchild hnext IH hI0 hix
              go_wp2_with fail
              refine HP.out.mono ?_
              rintro e w1 ⟨rfl, rfl⟩
              go_wp2_with fail
              refine HN.out.mono ?_
              rintro e w1 ⟨rfl, rfl⟩
              go_wp2_with fail
              refine HI.out.mono ?_
              rintro e w1 ⟨rfl, rfl⟩
              go_wp2_with (at_builtin; go_must (refine S8 (ok' := fun _ => False) rfl _ _ 72 rfl 3 i0 Tryz.underlying72 hi hi0 hi1 hi2 (base := w1.heap.size) rfl (happ.but hkb) rfl (List.length_pos_iff.2 hpne) rfl rfl (by decide) (D7.ints [(j : Int)] (by simp) hby) (by omega) (by simp) ?_); go_must (
                intro cap2 w2 hown2 hbb2
                have ho2 : But sb w1 w2 := hkb.trans (But.of hbb2)
                have hr2 : A8 C2 (fun b => b ≠ sb) w2 (some ⟨w1.heap.size + 1, 0, none⟩) cap2 (p ++ [(j : Int)]) := (by have hh := hown2.row (ok' := fun b => b ≠ sb) (fun _ h => h.elim) (fun k hk => by have := (hown2.lt k hk).1; omega); rwa [show (w1.alloc (.cells #[.int .i64 (j : Int)] 3)).heap.size = w1.heap.size + 1 by simp] at hh)))
              have hbest2 : A1f 99 w2 sb fb fo t.n la t.links.length lc sj := ⟨bj, blj, bcj, (hB1.alloc _).under hbb2, (hbj.but ho1).but ho2⟩
              clear hown2 hbb2 z1 z2 g1 g2 g3
              refine (HH.out w2 (some ⟨w1.heap.size + 1, 0, none⟩) cap2 (by omega) ho2 hbest2 hr2).mono ?_
              rintro e w3 ⟨rfl, ho3, hbest3⟩
              clear HH HP HN HI hbest2 hr2 happ
              go_wp2
              case roundEnd =>
                go_roundw
                case rel => exact ⟨j + 1, _, by omega, by go_num, HG, ((hbut.trans ho1).trans ho2).trans ho3, hbest3⟩
                case measure => simp [intOf]; omega
            · rw [if_neg him] at hchild
              have HS := Lib.hid (stay hchild.symm)
              have hne : ((i : Int) != (met : Int)) = true := by rw [bne_iff_ne]; omega
              clear stay hchild hnext IH hI0 hix him
              go_wp2_with fail
              refine HP.out.mono ?_
              rintro e w1 ⟨rfl, rfl⟩
              go_wp2_with fail
              refine HN.out.mono ?_
              rintro e w1 ⟨rfl, rfl⟩
              go_wp2_with fail
              refine HI.out.mono ?_
              rintro e w1 ⟨rfl, rfl⟩
              go_wp2
              case roundEnd =>
                go_roundw
                case rel => exact HS.out
                case measure => simp [intOf]; omega
        · have hje : j = t.n.toNat := by omega
          have b1 : ¬ (j : Int) < t.n := by omega
          have hend := Lib.hid hje
          clear hje hlt
          go_wp2
          refine bodyPost_end (v := .tuple #[]) (by simp [results, Tryz.results28, go_sem]) rfl ⟨rfl, hbut, by rw [← hend.out, ← hall.out]; exact ⟨bj, blj, bcj, hBj, hbj⟩⟩
    · go_wp2
      clear r1 r2 hnil
      go_loopw [9, 10, 11, 12, 80] (fun _ _ _ _ i wr => ∃ (j : Nat) (sj : St.Found), j ≤ t.n.toNat ∧ i = .int .i64 j ∧ Hid (sj = I7 t f p cost met (onS t f fuel) j (so, sc)) ∧ But sb w wr ∧ A1f 99 wr sb fb fo t.n la t.links.length lc sj) (fun _ _ _ _ i _ => t.n.toNat - (intOf i).toNat)
      case atStart => exact ⟨0, _, Nat.zero_le _, rfl, hst, But.refl _ _, hB0⟩
      case round =>
        obtain ⟨j, sj, hj, rfl, hall, hbut, bj, blj, bcj, hBj, hbj⟩ := hrel
        by_cases hlt : j < t.n.toNat
        · have hinr := hin.but hbut
          obtain ⟨s1, s2⟩ := hBj.cells
          have d1 := hinr.c1
          have d2 := hinr.c2
          have d3 := hinr.c3
          have hpr := hp.but hbut
          have hsz := hinr.sl
          have b0 : (0 : Int) ≤ (j : Int) := by omega
          have b1 : (j : Int) < t.n := by omega
          have hnext : Hid (I7 t f p cost met (onS t f fuel) (j + 1) (so, sc) = Y1 t f p cost met (onS t f fuel) j sj) := by show _ = _; rw [I7, ← hall.out]
          clear hall
          have hcost := fun w' (hb : But sb wr w') => B3e t [.int .i64 t.n, .slice la t.links.length lc] (fun b => b ≠ sb) x j w' ⟨la, lc, rfl, I64.small (by omega) (by omega), hinr.links.but hb⟩
          obtain ⟨cj0, cj1⟩ := hcb x j
          have HCC := Lib.hid hcost
          clear hcost f0 f1 f2 f3
          go_wp2_with fail
          refine (HCC.out _ (But.refl _ _)).mono ?_
          rintro e w1 ⟨rfl, hb1⟩
          have ho1 : But sb wr w1 := But.of hb1
          have hB1 := hBj.under hb1
          obtain ⟨z1, z2⟩ := hB1.cells
          have hin1 := hinr.but ho1
          have g1 := hin1.c1
          have g2 := hin1.c2
          have g3 := hin1.c3
          have hp1 := hpr.but ho1
          have hz1 := hin1.sl
          have hchild : Y1 t f p cost met (onS t f fuel) j sj = (if E9 t x j = 0 ∨ (j : Int) ∈ p ∨ (j : Int) ∈ f.no then sj else match N8 (j : Int) f.via with
              | none => onS t f fuel (p ++ [(j : Int)]) (cost + E9 t x j) met sj
              | some i => if i = met then onS t f fuel (p ++ [(j : Int)]) (cost + E9 t x j) (met + 1) sj else sj) := by unfold Y1; dsimp only; rw [← HX.out]; rfl
          generalize E9 t x j = c at *
          clear s1 s2 d1 d2 d3 HCC hb1
          have stay : sj = Y1 t f p cost met (onS t f fuel) j sj → ∃ (j' : Nat) (s' : St.Found), j' ≤ t.n.toNat ∧ (Value.int .i64 ((j : Int) + 1) = .int .i64 j') ∧ Hid (s' = I7 t f p cost met (onS t f fuel) j' (so, sc)) ∧ But sb w w1 ∧ A1f 99 w1 sb fb fo t.n la t.links.length lc s' :=
            fun h => ⟨j + 1, sj, by omega, by go_num, by show _ = _; rw [hnext.out]; exact h, hbut.trans ho1, bj, blj, bcj, hB1, hbj.but ho1⟩
          by_cases q1 : c = 0
          · have HS := Lib.hid (stay (by rw [hchild, if_pos (.inl q1)]))
            have q1' : (c == 0) = true := by rw [beq_iff_eq]; exact q1
            clear stay hchild hnext q1
            go_wp2
            case roundEnd =>
              go_roundw
              case rel => exact HS.out
              case measure => simp [intOf]; omega
          have q1' : (c == 0) = false := by rw [beq_eq_false_iff_ne]; exact q1
          have HP := Lib.hid (A39 p (j : Int) (fun b => b ≠ sb) _ pc w1 hp1)
          by_cases q2 : (j : Int) ∈ p
          · have HS := Lib.hid (stay (by rw [hchild, if_pos (.inr (.inl q2))]))
            rw [decide_eq_true q2] at HP
            clear stay hchild hnext q1 q2
            go_wp2_with fail
            refine HP.out.mono ?_
            rintro e w1 ⟨rfl, rfl⟩
            go_wp2
            case roundEnd =>
              go_roundw
              case rel => exact HS.out
              case measure => simp [intOf]; omega
          rw [decide_eq_false q2] at HP
          have HN := Lib.hid (X3 f.no (j : Int) (fun b => b ≠ sb) na nc w1 hin1.no)
          by_cases q3 : (j : Int) ∈ f.no
          · have HS := Lib.hid (stay (by rw [hchild, if_pos (.inr (.inr q3))]))
            rw [decide_eq_true q3] at HN
            clear stay hchild hnext q1 q2 q3
            go_wp2_with fail
            refine HP.out.mono ?_
            rintro e w1 ⟨rfl, rfl⟩
            go_wp2_with fail
            refine HN.out.mono ?_
            rintro e w1 ⟨rfl, rfl⟩
            go_wp2
            case roundEnd =>
              go_roundw
              case rel => exact HS.out
              case measure => simp [intOf]; omega
          rw [decide_eq_false q3] at HN
          rw [if_neg (by simp [q1, q2, q3])] at hchild
          have HI := Lib.hid (A29 f.via (j : Int) (fun b => b ≠ sb) va vc w1 hin1.via)
          have hlen : (p ++ [(j : Int)]).length = p.length + 1 := by simp
          have hnd' : (p ++ [(j : Int)]).Nodup := by
            rw [List.nodup_append]
            exact ⟨hnd, List.nodup_cons.2 ⟨by simp, List.nodup_nil⟩, fun a ha b hb e => by
              have hb' : b = (j : Int) := by simpa using hb
              exact q2 (hb' ▸ e ▸ ha)⟩
          have hrg' : ∀ s ∈ p ++ [(j : Int)], 0 ≤ s ∧ s < t.n := by
            intro s hs
            rcases List.mem_append.1 hs with h | h
            · exact hrg s h
            · simp at h; omega
          have IH : ∀ (m' : Nat) (w' : World) (pa' : Option Addr) (pc' : Nat), m' ≤ p.length + 1 → But sb w1 w' → A1f 99 w' sb fb fo t.n la t.links.length lc sj → A8 C2 (fun b => b ≠ sb) w' pa' pc' (p ++ [(j : Int)]) →
              Calls Tryz.prog 28 #[.pointer (some ⟨sb, 0, none⟩), .slice pa' (p.length + 1) pc', .int .i64 (cost + c), .int .i64 (m' : Int)] w' fun e w'' => e = .returned (.tuple #[]) ∧ But sb w' w'' ∧ A1f 99 w'' sb fb fo t.n la t.links.length lc (onS t f fuel (p ++ [(j : Int)]) (cost + c) m' sj) := by
            intro m' w' pa' pc' hm' hb' hbw' hr'
            have := ih (p ++ [(j : Int)]) (cost + c) m' sj w' pa' pc' (hin1.but hb') hbw' hr' (by simp) hnd' hrg' (by rw [hlen]; omega) (by omega) (by rw [hlen]; omega) (by rw [hlen]; exact hm')
            rwa [hlen] at this
          have happ : A8 C2 (fun b => b ≠ sb) w1 (some ⟨pb, po, none⟩) p.length p := ⟨Nat.le_refl _, by simp only [maxLen]; omega, hp1.2.2⟩
          obtain ⟨i0, hi, hi0, hi1, hi2⟩ := info_parts P6
          have hby : ∀ z ∈ [(j : Int)], I64 z := by intro z hz; simp only [List.mem_cons, List.not_mem_nil, or_false] at hz; subst hz; exact I64.small (by omega) (by omega)
          have hI0 : A1r (j : Int) f.via = (match N8 (j : Int) f.via with | none => -1 | some i => (i : Int)) := rfl
          have hcs : IntKind.i64.wrap (cost + c) = cost + c := IntWalk.i64_in _ (by omega)
          have hkp : (0 : Int) ≤ (p.length : Int) := by omega
          have hkq : (p.length : Int) ≤ (pc : Int) := by omega
          have hkr : ((p.length : Int)).toNat = p.length := by omega
          have hkb : But sb w1 (w1.alloc (.cells #[.int .i64 (j : Int)] 3)) := But.of (by (repeat' (first | with_reducible (first | exact Below.refl _ _ | assumption | refine Below.drew ?_ | refine A3 ?_ _ | refine Below.alloc ?_ ?_ _ | refine Below.setCell ?_ ?_ _) | omega | (simp; done) | (simp; omega))))
          clear hnd hrg hfu hlast k1 k2 k3 k4 hin hrg' hnd' q1 q2 q3
          cases hix : N8 (j : Int) f.via with
          | none =>
            rw [hix] at hchild hI0
            dsimp only at hchild hI0
            rw [hI0] at HI
            have HG : Hid (onS t f fuel (p ++ [(j : Int)]) (cost + c) met sj = I7 t f p cost met (onS t f fuel) (j + 1) (so, sc)) := by show _ = _; rw [hnext.out, hchild]
            have HH := Lib.hid (IH met)
            clear stay hchild hnext IH hI0 hix
            go_wp2_with fail
            refine HP.out.mono ?_
            rintro e w1 ⟨rfl, rfl⟩
            go_wp2_with fail
            refine HN.out.mono ?_
            rintro e w1 ⟨rfl, rfl⟩
            go_wp2_with fail
            refine HI.out.mono ?_
            rintro e w1 ⟨rfl, rfl⟩
            go_wp2_with (at_builtin; go_must (refine S8 (ok' := fun _ => False) rfl _ _ 72 rfl 3 i0 Tryz.underlying72 hi hi0 hi1 hi2 (base := w1.heap.size) rfl (happ.but hkb) rfl (List.length_pos_iff.2 hpne) rfl rfl (by decide) (D7.ints [(j : Int)] (by simp) hby) (by omega) (by simp) ?_); go_must (
              intro cap2 w2 hown2 hbb2
              have ho2 : But sb w1 w2 := hkb.trans (But.of hbb2)
              have hr2 : A8 C2 (fun b => b ≠ sb) w2 (some ⟨w1.heap.size + 1, 0, none⟩) cap2 (p ++ [(j : Int)]) := (by have hh := hown2.row (ok' := fun b => b ≠ sb) (fun _ h => h.elim) (fun k hk => by have := (hown2.lt k hk).1; omega); rwa [show (w1.alloc (.cells #[.int .i64 (j : Int)] 3)).heap.size = w1.heap.size + 1 by simp] at hh)))
            have hbest2 : A1f 99 w2 sb fb fo t.n la t.links.length lc sj := ⟨bj, blj, bcj, (hB1.alloc _).under hbb2, (hbj.but ho1).but ho2⟩
            clear hown2 hbb2 z1 z2 g1 g2 g3
            refine (HH.out w2 (some ⟨w1.heap.size + 1, 0, none⟩) cap2 (by omega) ho2 hbest2 hr2).mono ?_
            rintro e w3 ⟨rfl, ho3, hbest3⟩
            clear HH HP HN HI hbest2 hr2 happ
            go_wp2
            case roundEnd =>
              go_roundw
              case rel => exact ⟨j + 1, _, by omega, by go_num, HG, ((hbut.trans ho1).trans ho2).trans ho3, hbest3⟩
              case measure => simp [intOf]; omega
          | some i =>
            rw [hix] at hchild hI0
            dsimp only at hchild hI0
            rw [hI0] at HI
            have hil := (List.getElem?_eq_some_iff.1 (S2 hix)).1
            by_cases him : i = met
            · rw [if_pos him] at hchild
              subst him
              have HG : Hid (onS t f fuel (p ++ [(j : Int)]) (cost + c) (i + 1) sj = I7 t f p cost i (onS t f fuel) (j + 1) (so, sc)) := by show _ = _; rw [hnext.out, hchild]
              have HH := IH (i + 1)
              rw [show ((i + 1 : Nat) : Int) = (i : Int) + 1 by omega] at HH
              have HH := Lib.hid HH
              clear stay hchild hnext IH hI0 hix
              go_wp2_with fail
              refine HP.out.mono ?_
              rintro e w1 ⟨rfl, rfl⟩
              go_wp2_with fail
              refine HN.out.mono ?_
              rintro e w1 ⟨rfl, rfl⟩
              go_wp2_with fail
              refine HI.out.mono ?_
              rintro e w1 ⟨rfl, rfl⟩
              go_wp2_with (at_builtin; go_must (refine S8 (ok' := fun _ => False) rfl _ _ 72 rfl 3 i0 Tryz.underlying72 hi hi0 hi1 hi2 (base := w1.heap.size) rfl (happ.but hkb) rfl (List.length_pos_iff.2 hpne) rfl rfl (by decide) (D7.ints [(j : Int)] (by simp) hby) (by omega) (by simp) ?_); go_must (
                intro cap2 w2 hown2 hbb2
                have ho2 : But sb w1 w2 := hkb.trans (But.of hbb2)
                have hr2 : A8 C2 (fun b => b ≠ sb) w2 (some ⟨w1.heap.size + 1, 0, none⟩) cap2 (p ++ [(j : Int)]) := (by have hh := hown2.row (ok' := fun b => b ≠ sb) (fun _ h => h.elim) (fun k hk => by have := (hown2.lt k hk).1; omega); rwa [show (w1.alloc (.cells #[.int .i64 (j : Int)] 3)).heap.size = w1.heap.size + 1 by simp] at hh)))
              have hbest2 : A1f 99 w2 sb fb fo t.n la t.links.length lc sj := ⟨bj, blj, bcj, (hB1.alloc _).under hbb2, (hbj.but ho1).but ho2⟩
              clear hown2 hbb2 z1 z2 g1 g2 g3
              refine (HH.out w2 (some ⟨w1.heap.size + 1, 0, none⟩) cap2 (by omega) ho2 hbest2 hr2).mono ?_
              rintro e w3 ⟨rfl, ho3, hbest3⟩
              clear HH HP HN HI hbest2 hr2 happ
              go_wp2
              case roundEnd =>
                go_roundw
                case rel => exact ⟨j + 1, _, by omega, by go_num, HG, ((hbut.trans ho1).trans ho2).trans ho3, hbest3⟩
                case measure => simp [intOf]; omega
            · rw [if_neg him] at hchild
              have HS := Lib.hid (stay hchild.symm)
              have hne : ((i : Int) != (met : Int)) = true := by rw [bne_iff_ne]; omega
              clear stay hchild hnext IH hI0 hix him
              go_wp2_with fail
              refine HP.out.mono ?_
              rintro e w1 ⟨rfl, rfl⟩
              go_wp2_with fail
              refine HN.out.mono ?_
              rintro e w1 ⟨rfl, rfl⟩
              go_wp2_with fail
              refine HI.out.mono ?_
              rintro e w1 ⟨rfl, rfl⟩
              go_wp2
              case roundEnd =>
                go_roundw
                case rel => exact HS.out
                case measure => simp [intOf]; omega
        · have hje : j = t.n.toNat := by omega
          have b1 : ¬ (j : Int) < t.n := by omega
          have hend := Lib.hid hje
          clear hje hlt
          go_wp2
          refine bodyPost_end (v := .tuple #[]) (by simp [results, Tryz.results28, go_sem]) rfl ⟨rfl, hbut, by rw [← hend.out, ← hall.out]; exact ⟨bj, blj, bcj, hBj, hbj⟩⟩
end Go.Proofs.YtampcbncgofkoaaGreatDoor
