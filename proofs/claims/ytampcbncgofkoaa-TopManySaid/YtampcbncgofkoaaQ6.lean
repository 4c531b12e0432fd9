/- Texts of this proof, one behind the other. -/
import Derived.Test.YtampcbncgofkoaaQ1
import Derived.Test.YtampcbncgofkoaaPk31
set_option linter.unusedSimpArgs false
set_option linter.unusedVariables false
set_option maxRecDepth 100000
set_option maxHeartbeats 16000000
namespace Go.Proofs.Ytampcbncgofkoaa
open Go.RowKit Go.St
def R5 {α:Type} [DecidableEq α] (a b:List α) (j:Nat):Bool:=a.drop j==b.drop j
theorem A4a {α:Type} [DecidableEq α] (a b:List α):(a==b)=R5 a b 0:=rfl
theorem A6u {α:Type} [DecidableEq α] {a b:List α} {j:Nat} (h1:j<a.length) (h2:j<b.length) (hi:(a==b)=R5 a b j) (hne:a[j]≠b[j]):(a==b)=false:=by
 rw [hi,R5,W3 h1,W3 h2,beq_eq_false_iff_ne]
 intro e
 exact hne (List.cons.inj e).1
theorem A5a {α:Type} [DecidableEq α] {a b:List α} {j:Nat} (h1:j<a.length) (h2:j<b.length) (hi:(a==b)=R5 a b j) (he:a[j]=b[j]):(a==b)=R5 a b (j+1):=by
 rw [hi,R5,W3 h1,W3 h2,R5,he,Bool.eq_iff_iff,beq_iff_eq,beq_iff_eq]
 exact ⟨fun e=>(List.cons.inj e).2,fun e=>by rw [e]⟩
theorem A6n {α:Type} [DecidableEq α] {a b:List α} {j:Nat} (h1:j=a.length) (h2:j=b.length) (hi:(a==b)=R5 a b j):true=(a==b):=by
 rw [hi,R5,h1,List.drop_length,←h1,h2,List.drop_length];rfl
theorem A6a {α:Type} [DecidableEq α] {a b:List α} (h:a.length≠b.length):(a==b)=false:=by
 rw [beq_eq_false_iff_ne]
 rintro rfl
 exact h rfl
theorem B1y (xs ys:List Int) (ok ok':Nat→Prop) (ax ay:Option Addr) (cx cy:Nat) (w:World) (hx:A8 C2 ok w ax cx xs) (hy:A8 C2 ok' w ay cy ys):
  Calls Try.prog 14 #[.slice ax xs.length cx,.slice ay ys.length cy] w fun e w'=>e=.returned (.bool (xs==ys))∧Below w.heap.size w w':=by
 by_cases hl:xs.length=ys.length
 case neg=>
  rw [A6a hl]
  have hl':((xs.length:Int)==(ys.length:Int))=false:=by rw [beq_eq_false_iff_ne];omega
  clear hl
  go_enter Try.func14,Try.ntmps14
  go_wp2
  go_ret;exact ⟨rfl,by (repeat' (first|with_reducible (first|exact Below.refl _ _|assumption|refine Below.drew ?_|refine A3 ?_ _|refine Below.alloc ?_ ?_ _|refine Below.setCell ?_ ?_ _)|omega|(simp;done)|(simp;omega)))⟩
 have hl':((xs.length:Int)==(ys.length:Int))=true:=by rw [beq_iff_eq];omega
 have hlx:=hx.len_le
 have HL:=Lib.hid hl
 clear hl
 go_enter Try.func14,Try.ntmps14
 go_wp2
 go_loopw [13] (fun i wr=>∃ j:Nat,j≤xs.length∧i=.int .i64 j∧Hid ((xs==ys)=R5 xs ys j)∧Below w.heap.size w wr) (fun i _=>xs.length - (intOf i).toNat)
 case atStart=>exact ⟨0,Nat.zero_le _,rfl,A4a _ _,Below.refl _ _⟩
 case round=>
  obtain ⟨j,hj,rfl,hall,hb⟩:=hrel
  by_cases hlt:j<xs.length
  ·have hlt2:j<ys.length:=by have:=HL.out;omega
   obtain ⟨b,off,rfl,_,hbl,cs,hcs,hce⟩:=hx.get (List.getElem?_eq_getElem hlt)
   obtain ⟨rfl,hi1⟩:=hcs
   have e0:=B8 hb hbl (hce 0 _ rfl)
   clear hce
   obtain ⟨b',off',rfl,_,hbl',cs',hcs',hce'⟩:=hy.get (List.getElem?_eq_getElem hlt2)
   obtain ⟨rfl,hi2⟩:=hcs'
   have e1:=B8 hb hbl' (hce' 0 _ rfl)
   clear hce'
   simp only [C2,Nat.add_zero,Nat.mul_one] at e0 e1
   have b0:(0:Int)≤(j:Int):=by omega
   have b1:(j:Int)<(xs.length:Int):=by omega
   have b2:(j:Int)<(ys.length:Int):=by omega
   go_wp2
   go_quiet (fail)
   go_wp2
   case roundEnd=>
    go_roundw
    case rel=>exact ⟨j+1,by omega,by go_num,A5a hlt hlt2 hall.out (by (try simp only [beq_iff_eq,beq_eq_false_iff_ne,bne_iff_ne,bne_eq_false_iff_eq,ne_eq,Bool.not_eq_true',Bool.not_eq_false',decide_eq_true_eq,decide_eq_false_iff_not] at *);assumption),by (repeat' (first|with_reducible (first|exact Below.refl _ _|assumption|refine Below.drew ?_|refine A3 ?_ _|refine Below.alloc ?_ ?_ _|refine Below.setCell ?_ ?_ _)|omega|(simp;done)|(simp;omega)))⟩
    case measure=>simp [intOf];omega
   all_goals (go_ret;exact ⟨N2 (A6u hlt hlt2 hall.out (by (try simp only [beq_iff_eq,beq_eq_false_iff_ne,bne_iff_ne,bne_eq_false_iff_eq,ne_eq,Bool.not_eq_true',Bool.not_eq_false',decide_eq_true_eq,decide_eq_false_iff_not] at *);assumption)).symm,by (repeat' (first|with_reducible (first|exact Below.refl _ _|assumption|refine Below.drew ?_|refine A3 ?_ _|refine Below.alloc ?_ ?_ _|refine Below.setCell ?_ ?_ _)|omega|(simp;done)|(simp;omega)))⟩)
  ·go_wp2
   go_ret;exact ⟨N2 (A6n (by omega) (by have:=HL.out;omega) hall.out),by (repeat' (first|with_reducible (first|exact Below.refl _ _|assumption|refine Below.drew ?_|refine A3 ?_ _|refine Below.alloc ?_ ?_ _|refine Below.setCell ?_ ?_ _)|omega|(simp;done)|(simp;omega)))⟩
end Go.Proofs.Ytampcbncgofkoaa
namespace Go.St
open Go.RowKit
section
variable {t : C5} {n : Net}
theorem G7.plans (h:G7 t n):V4 t n.plans∧P9 n.plans n.ctl.now∧P9 n.plans n.ctl.next:=by
 obtain ⟨p0,p,a,b,o,st,h⟩:=h
 exact ⟨h.plans,by rw [h.now];exact h.is0,by rw [h.next];exact h.is1⟩
end
open Go.RowKit
theorem B71 (t:C5) (n:Net) (s:Nat):I8 t n (B8a s)=L4 t n (s:Int):=by
 unfold I8 B8a
 rw [if_neg (show ¬(2:Int)=1 by decide),if_pos rfl]
theorem B7f (t:C5) (n:Net) (s:Nat):I8 t n (B86 s)=M7 t n (s:Int):=by
 unfold I8 B86
 rw [if_neg (show ¬(3:Int)=1 by decide),if_neg (show ¬(3:Int)=2 by decide),if_pos rfl]
def B8r (n:Net):Nat:=if n.ctl.stage=1 then 2 else if n.ctl.stage=2 then 1 else if n.ctl.stage=4 then 1 else 0
def B8o (st:Int):Int:=if st=0∨st=4 then 0 else 3
section
variable {t : C5} {n : Net} {p0 p : F5} {a b : Nat → D8} {o : Nat → G3} {st : Nat → Nat} {s : Nat}
theorem B7k (h:B4b t n p0 p a b o st) (hs:s<t.n.toNat) (h1:st s=1):
  B4b t (I8 t n (B8a s)).1 p0 p a b o (A1e st s 2)∧(I8 t n (B8a s)).1.ctl=n.ctl∧(I8 t n (B8a s)).1.plans=n.plans∧(I8 t n (B8a s)).1.packets=n.packets:=by
 rw [B71]
 rcases h.fl.each s hs with g|g|g
 ·omega
 ·have hrow:rowAt t n.orders (s:Int)=[o s]:=by
   unfold rowAt
   rw [if_neg (by omega),Int.toNat_natCast,List.getD_eq_getElem?_getD,g.2.1];rfl
  have e1:n.switches.getD (s:Int).toNat O5=a s:=by rw [Int.toNat_natCast,List.getD_eq_getElem?_getD,g.2.2.2.1];rfl
  unfold L4
  rw [hrow]
  dsimp only
  rw [e1,g.2.2.2.2]
  refine ⟨⟨?_,h.now,h.next,h.plans,h.is0,h.is1,h.at_⟩,rfl,rfl,rfl⟩
  exact h.fl.order hs h1
 ·omega
theorem B69 {c:Ctl} (hw:c.waits=[]):((C0 c t).1.stage=2∨(C0 c t).1.stage=3)∧c.stage=1∨(c.stage=2∧(C0 c t).1.stage=3)∨(c.stage=4∧(C0 c t).1.stage=0)∨(c.stage≠1∧c.stage≠2∧c.stage≠4∧(C0 c t).1=c):=by
 unfold C0
 rw [if_neg (fun h=>h hw)]
 split
 ·left
  refine ⟨?_,by assumption⟩
  split
  ·exact .inr rfl
  ·exact .inl (P7 _ _).1
 split
 ·exact .inr (.inl ⟨by assumption,rfl⟩)
 split
 ·exact .inr (.inr (.inl ⟨by assumption,rfl⟩))
 ·exact .inr (.inr (.inr ⟨by assumption,by assumption,by assumption,rfl⟩))
theorem B7n {k : Nat} (h : B4b t n p0 p a b o st) (hf : F4 t k n) (hk : k ≤ 5000) (ht : (B6 t).1 = 0) (hs : s < t.n.toNat) (h2 : st s = 2) :
    (I8 t n (B86 s)).1.plans = n.plans ∧ (I8 t n (B86 s)).1.packets = n.packets ∧
    ((B4b t (I8 t n (B86 s)).1 p0 p a b o (A1e st s 0) ∧ (I8 t n (B86 s)).1.ctl.stage = n.ctl.stage ∧ (I8 t n (B86 s)).1.ctl.waits ≠ []) ∨
     ((∀ r, r < t.n.toNat → r ≠ s → st r = 0) ∧ B8r (I8 t n (B86 s)).1 < B8r n ∧ B8o (I8 t n (B86 s)).1.ctl.stage = B8o n.ctl.stage)) := by
  rw [B7f]
  rcases h.fl.each s hs with g | g | g
  · omega
  · omega
  · have hrow : rowAt t n.backs (s : Int) = [(o s).num] := by
      unfold rowAt
      rw [if_neg (by omega), Int.toNat_natCast, List.getD_eq_getElem?_getD, g.2.2.1]; rfl
    have hm : (o s).num ∈ n.ctl.waits := (h.fl.wait _).2 ⟨_, hs, by omega, rfl⟩
    obtain ⟨i, hi⟩ := B58 hm
    have e : H8 n.ctl t (o s).num = ((C0 ⟨n.ctl.stage, n.ctl.now, n.ctl.next, n.ctl.num, n.ctl.waits.eraseIdx i⟩ t).1, (C0 ⟨n.ctl.stage, n.ctl.now, n.ctl.next, n.ctl.num, n.ctl.waits.eraseIdx i⟩ t).2, 0) := by
      unfold H8; rw [if_neg (by rw [ht]; decide), hi]
    have hne : n.ctl.waits ≠ [] := fun e => by rw [e] at hm; simp at hm
    have hE : M7 t n (s : Int) = ({ n with backs := n.backs.set s [], ctl := (C0 ⟨n.ctl.stage, n.ctl.now, n.ctl.next, n.ctl.num, n.ctl.waits.eraseIdx i⟩ t).1, orders := F9 n.orders (C0 ⟨n.ctl.stage, n.ctl.now, n.ctl.next, n.ctl.num, n.ctl.waits.eraseIdx i⟩ t).2 }, 0) := by
      unfold M7
      rw [hrow]
      dsimp only
      rw [e, if_neg (fun h => h rfl), Int.toNat_natCast]
    rw [hE]
    refine ⟨rfl, rfl, ?_⟩
    have hfl := h.fl.back hs h2 hi (c := ⟨n.ctl.stage, n.ctl.now, n.ctl.next, n.ctl.num, n.ctl.waits.eraseIdx i⟩) rfl
    rcases h.at_ with ⟨_, q, _⟩ | ⟨hp, hv, hv0, hst⟩
    · exact absurd q hne
    by_cases hz : n.ctl.waits.eraseIdx i = []
    · right
      have hR := hfl.rest hz
      refine ⟨fun r hr hrs => ?_, ?_⟩
      · have := hR r hr
        simpa [A1e, hrs] using this
      · have hq := B69 (t := t) (c := ⟨n.ctl.stage, n.ctl.now, n.ctl.next, n.ctl.num, n.ctl.waits.eraseIdx i⟩) hz
        unfold B8r B8o
        dsimp only at hq ⊢
        generalize (C0 ⟨n.ctl.stage, n.ctl.now, n.ctl.next, n.ctl.num, n.ctl.waits.eraseIdx i⟩ t).1.stage = z at *
        have h4 : n.ctl.stage = 1 ∨ n.ctl.stage = 2 ∨ n.ctl.stage = 4 := by
          rcases hst with ⟨q1, _⟩ | ⟨q1, _⟩ | ⟨_, q2, _⟩ | ⟨q1, _⟩
          · exact .inl q1
          · exact .inr (.inl q1)
          · exact absurd q2 hne
          · exact .inr (.inr q1)
        rcases hq with ⟨h5 | h5, h6⟩ | ⟨h6, h5⟩ | ⟨h6, h5⟩ | ⟨q1, q2, q3, _⟩
        · subst h5; rw [h6]; decide
        · subst h5; rw [h6]; decide
        · subst h5; rw [h6]; decide
        · subst h5; rw [h6]; decide
        · omega
    · left
      have e2 : C0 ⟨n.ctl.stage, n.ctl.now, n.ctl.next, n.ctl.num, n.ctl.waits.eraseIdx i⟩ t = (⟨n.ctl.stage, n.ctl.now, n.ctl.next, n.ctl.num, n.ctl.waits.eraseIdx i⟩, []) := by unfold C0; rw [if_pos hz]
      rw [e2]
      refine ⟨⟨hfl, h.now, h.next, h.plans, h.is0, h.is1, .inr ⟨hp, hv, hv0, ?_⟩⟩, rfl, hz⟩
      rcases hst with ⟨q1, _, q⟩ | ⟨q1, _, q⟩ | ⟨q1, q2, _⟩ | ⟨q1, _, q⟩
      · exact .inl ⟨q1, hz, q⟩
      · exact .inr (.inl ⟨q1, hz, q⟩)
      · exact absurd q2 hne
      · exact .inr (.inr (.inr ⟨q1, hz, q⟩))
end
structure B6q (t:C5) (n m:Net):Prop where
 less:B8r m<B8r n
 same:B8o m.ctl.stage=B8o n.ctl.stage
 plans:m.plans=n.plans
 packets:m.packets=n.packets
theorem B67 {st:Nat→Nat} {l:List Nat} (h:∀ r∈l,st r=0):(l.flatMap fun r=>B8d r (st r))=[]:=by
 rw [List.flatMap_eq_nil_iff]
 intro r hr
 rw [h r hr];rfl
theorem B7q {n m:Net} (h:m.ctl=n.ctl):B8r m=B8r n:=by unfold B8r;rw [h]
theorem B8x {t:C5} (ht:(B6 t).1=0) {p0 p:F5} {a b:Nat→D8} {o:Nat→G3}:∀ (m s:Nat) (n:Net) (st:Nat→Nat) (k:Nat),B4b t n p0 p a b o st→F4 t k n→s+m=t.n.toNat→k+2 * m≤5000→(∀ r,r<s→st r=0)→(∃ r,r<t.n.toNat∧st r≠0)→
    B6q t n (D5 t n ((List.range' s m).flatMap fun s=>B8d s (st s))).1
  |0,s,n,st,k,h,hf,hm,hk,hz,⟨r,hr,hne⟩=>absurd (hz r (by omega)) hne
  |m+1,s,n,st,k,h,hf,hm,hk,hz,hex=>by
    have hn:=(J8 ht).1.1
    have hs:s<t.n.toNat:=by omega
    rw [List.range'_succ,List.flatMap_cons]
    have main:∀ (n:Net) (st:Nat→Nat) (k:Nat),B4b t n p0 p a b o st→F4 t k n→k+1+2 * m≤5000→(∀ r,r<s→st r=0)→st s=2→B6q t n (D5 t n (B86 s::(List.range' (s+1) m).flatMap fun s=>B8d s (st s))).1:=by
      intro n st k h hf hk hz h2
      obtain ⟨e1,e1',hb⟩:=B7n h hf (by omega) ht hs h2
      have hF:=A3y hf (by omega) (by omega) (B86 s)
      rw [D5]
      dsimp only
      rcases hb with ⟨hI,hst,hw⟩|⟨hr0,hrk,hen⟩
      · have hc:((List.range' (s+1) m).flatMap fun s=>B8d s (st s))=((List.range' (s+1) m).flatMap fun r=>B8d r (A1e st s 0 r)):=B8g fun r hr=>by
          have:=(List.mem_range'_1.1 hr).1
          unfold A1e
          rw [if_neg (by omega)]
        rw [hc]
        have ih:=B8x ht m (s+1) _ (A1e st s 0) (k+1) hI hF (by omega) (by omega) (fun r hr=>by
          unfold A1e
          split
          · rfl
          · exact hz r (by omega)) (by
          cases hwl:(I8 t n (B86 s)).1.ctl.waits with
          |nil=>exact absurd hwl hw
          |cons x l=>
            obtain ⟨r,hr,hr2,_⟩:=(hI.fl.wait x).1 (by rw [hwl];simp)
            exact ⟨r,hr,hr2⟩)
        have er:B8r (I8 t n (B86 s)).1=B8r n:=by unfold B8r;rw [hst]
        exact ⟨er▸ih.less,by rw [ih.same,hst],ih.plans.trans e1,ih.packets.trans e1'⟩
      · rw [B67 (fun r hr=>by
          have:=List.mem_range'_1.1 hr
          exact hr0 r (by omega) (by omega))]
        exact ⟨hrk,hen,e1,e1'⟩
    rcases h.fl.each s hs with g|g|g
    · rw [g.1]
      show B6q t n (D5 t n ([]++_)).1
      rw [List.nil_append]
      exact B8x ht m (s+1) n st k h hf (by omega) (by omega) (fun r hr=>by
        by_cases e:r=s
        · rw [e];exact g.1
        · exact hz r (by omega)) hex
    · rw [g.1]
      show B6q t n (D5 t n (B8a s::B86 s::((List.range' (s+1) m).flatMap fun s=>B8d s (st s)))).1
      rw [D5]
      dsimp only
      obtain ⟨hI,e0,e1,e2⟩:=B7k h hs g.1
      have hF:=A3y hf (by omega) (by omega) (B8a s)
      have hc:((List.range' (s+1) m).flatMap fun s=>B8d s (st s))=((List.range' (s+1) m).flatMap fun r=>B8d r (A1e st s 2 r)):=B8g fun r hr=>by
        have:=(List.mem_range'_1.1 hr).1
        unfold A1e
        rw [if_neg (by omega)]
      rw [hc]
      have ih:=main _ (A1e st s 2) (k+1) hI hF (by omega) (fun r hr=>by unfold A1e;rw [if_neg (by omega)];exact hz r hr) (by simp [A1e])
      exact ⟨B7q e0▸ih.less,by rw [ih.same,e0],ih.plans.trans e1,ih.packets.trans e2⟩
    · rw [g.1]
      exact main n st k h hf (by omega) hz g.1
section
variable {t : C5} {n : Net} {k : Nat}
theorem B68 (ht:(B6 t).1=0) (h:G7 t n) (hf:F4 t k n) (hk:k≤4000) (hne:B87 n≠[]):B6q t n (D5 t n (B87 n)).1:=by
 obtain ⟨p0,p,a,b,o,st,h⟩:=h
 have h8:=(J8 ht).1.2.1
 rw [h.round] at hne ⊢
 rw [List.range_eq_range'] at hne ⊢
 refine B8x ht t.n.toNat 0 n st k h hf (by omega) (by omega) (fun r hr=>by omega) ?_
 apply Classical.byContradiction
 intro hno
 refine hne (B67 fun r hr=>?_)
 have:=List.mem_range'_1.1 hr
 apply Classical.byContradiction
 intro h0
 exact hno ⟨r,by omega,h0⟩
theorem B6z (h:G7 t n) (he:B87 n=[]):n.ctl.waits=[]:=by
 obtain ⟨p0,p,a,b,o,st,h⟩:=h
 rw [h.round,List.flatMap_eq_nil_iff] at he
 cases hw:n.ctl.waits with
 |nil=>rfl
 |cons x l=>
  obtain ⟨r,hr,h2,_⟩:=(h.fl.wait x).1 (by rw [hw];simp)
  have:=he r (List.mem_range.2 hr)
  unfold B8d at this
  rw [if_neg h2] at this
  split at this<;>simp at this
theorem B73 (h:G7 t n) (hw:n.ctl.waits=[]):n.ctl.stage=B8o n.ctl.stage:=by
 obtain ⟨p0,p,a,b,o,st,h⟩:=h
 unfold B8o
 rcases h.at_ with ⟨q,_⟩|⟨_,_,_,hst⟩
 ·rw [q];decide
 ·rcases hst with ⟨_,q,_⟩|⟨_,q,_⟩|⟨q,_⟩|⟨_,q,_⟩
  ·exact absurd hw q
  ·exact absurd hw q
  ·rw [q];decide
  ·exact absurd hw q
theorem B6x (n:Net):B8r n≤2:=by
 unfold B8r
 split
 ·exact Nat.le_refl _
 split
 ·decide
 split<;>decide
end
theorem B8h (t:C5):∀ (k:Nat) (l:List Do),∃ r,B8f t k l=l++r
 |0,l=>⟨[],by simp [B8f]⟩
 |k+1,l=>by
  unfold B8f
  split
  ·exact ⟨[],by simp⟩
  ·obtain ⟨r,hr⟩:=B8h t k (l++B87 (D9 t l).1)
   exact ⟨B87 (D9 t l).1++r,by rw [hr,List.append_assoc]⟩
structure B78 (t:C5) (n m:Net):Prop where
 calm:m.ctl.waits=[]
 stage:m.ctl.stage=B8o n.ctl.stage
 plans:m.plans=n.plans
 packets:m.packets=n.packets
theorem B6a {t:C5} (ht:(B6 t).1=0):∀ (k:Nat) (l:List Do),(B8f t k l).length≤200→B8r (D5 t (D3 t) l).1<k→B78 t (D5 t (D3 t) l).1 (D5 t (D3 t) (B8f t k l)).1
 |0,l,_,h=>by omega
 |k+1,l,hl,hr=>by
  obtain ⟨r,hp⟩:=B8h t (k+1) l
  have hll:l.length≤200:=by rw [hp] at hl;simp at hl;omega
  obtain ⟨hok,hfit⟩:=A3r ht hll
  unfold B8f at hl ⊢
  rw [W2 ht hll] at hl ⊢
  dsimp only at hl ⊢
  split
  ·rename_i he
   have hw:=B6z hok he
   exact ⟨hw,B73 hok hw,rfl,rfl⟩
  ·rename_i he
   rw [if_neg he] at hl
   have hR:=B68 ht hok hfit (by omega) he
   have e:(D5 t (D3 t) (l++B87 (D5 t (D3 t) l).1)).1=(D5 t (D5 t (D3 t) l).1 (B87 (D5 t (D3 t) l).1)).1:=by rw [A3g]
   have ih:=B6a ht k (l++B87 (D5 t (D3 t) l).1) hl (by rw [e];have:=hR.less;omega)
   rw [e] at ih
   exact ⟨ih.calm,ih.stage.trans hR.same,ih.plans.trans hR.plans,ih.packets.trans hR.packets⟩
theorem B6p {t:C5} (ht:(B6 t).1=0) {l:List Do} (hl:(B85 t l).length≤200):B78 t (D5 t (D3 t) l).1 (D5 t (D3 t) (B85 t l)).1:=
 B6a ht 10 l hl (by have:=B6x (D5 t (D3 t) l).1;omega)
theorem B91 (t:C5) (l:List Do):∃ r,B85 t l=l++r:=B8h t 10 l
def B8e:Do:=⟨6,0,[]⟩
theorem B7g (t:C5) (n:Net):I8 t n B8e=Z9 t n:=by
 unfold I8 B8e
 rw [if_neg (show ¬(6:Int)=1 by decide),if_neg (show ¬(6:Int)=2 by decide),if_neg (show ¬(6:Int)=3 by decide),if_neg (show ¬(6:Int)=4 by decide),if_neg (show ¬(6:Int)=5 by decide),if_pos rfl]
theorem B7o {t:C5} (ht:(B6 t).1=0) {n:Net} (h:n.ctl.stage=0∨n.ctl.stage=3):B8o (Z9 t n).1.ctl.stage=0∧(Z9 t n).1.plans=n.plans∧(Z9 t n).1.packets=n.packets:=by
  unfold Z9
  rcases h with h|h
  · have e:(G5 n.ctl t).2.2=11:=by
      unfold G5
      rw [if_neg (by rw [ht];decide),if_pos (by omega)]
    rw [if_pos (by rw [e];decide),h]
    exact ⟨by decide,rfl,rfl⟩
  · have e:G5 n.ctl t=((C0 (E6 ⟨4,n.ctl.now,n.ctl.next,n.ctl.num,n.ctl.waits⟩ (L9 n.ctl.now t)).1 t).1,
       (E6 ⟨4,n.ctl.now,n.ctl.next,n.ctl.num,n.ctl.waits⟩ (L9 n.ctl.now t)).2++(C0 (E6 ⟨4,n.ctl.now,n.ctl.next,n.ctl.num,n.ctl.waits⟩ (L9 n.ctl.now t)).1 t).2,0):=by
      unfold G5
      rw [if_neg (by rw [ht];decide),if_neg (by omega)]
    rw [e,if_neg (fun h=>h rfl)]
    refine ⟨?_,rfl,rfl⟩
    have hk:=(P7 ⟨4,n.ctl.now,n.ctl.next,n.ctl.num,n.ctl.waits⟩ (L9 n.ctl.now t)).1
    dsimp only at hk ⊢
    generalize (E6 ⟨4,n.ctl.now,n.ctl.next,n.ctl.num,n.ctl.waits⟩ (L9 n.ctl.now t)).1=c at *
    by_cases hw:c.waits=[]
    · rcases B69 (t:=t) hw with ⟨_,q⟩|⟨q,_⟩|⟨q,q2⟩|⟨_,_,q,_⟩
      · omega
      · omega
      · rw [q2];decide
      · omega
    · have e2:C0 c t=(c,[]):=by unfold C0;rw [if_pos hw]
      rw [e2]
      show B8o c.stage=0
      rw [hk];decide
structure B80 (t:C5) (n m:Net):Prop where
 stage:m.ctl.stage=0
 calm:m.ctl.waits=[]
 plans:m.plans=n.plans
 packets:m.packets=n.packets
 sw:∀ s:Nat,s<t.n.toNat→m.switches[s]? =some (U6 m.ctl.now s)
 next:m.ctl.next=E2
 ver:m.ctl.now.ver=m.plans.length
theorem B7x {t:C5} {m:Net} (h:G7 t m) (h0:m.ctl.stage=0):m.ctl.waits=[]∧m.ctl.next=E2∧m.ctl.now.ver=m.plans.length∧(∀ s:Nat,s<t.n.toNat→m.switches[s]? =some (U6 m.ctl.now s))∧(∀ s:Nat,s<t.n.toNat→m.orders[s]? =some []∧m.backs[s]? =some []):=by
 obtain ⟨p0,p,a,b,o,st,h⟩:=h
 rcases h.at_ with ⟨_,q2,q3,q4,q5,q6,q7⟩|⟨_,_,_,hst⟩
 ·subst q7
  refine ⟨q2,by rw [h.next];exact q3,by rw [h.now];exact q5,fun s hs=>?_,fun s hs=>?_⟩
  ·rw [h.now]
   exact (h.fl.calm q2 s hs).2.2
  ·exact ⟨(h.fl.calm q2 s hs).1,(h.fl.calm q2 s hs).2.1⟩
 ·exfalso
  rcases hst with ⟨q,_⟩|⟨q,_⟩|⟨q,_⟩|⟨q,_⟩<;>omega
theorem B6d {t:C5} (ht:(B6 t).1=0) {l:List Do} (hl:(B85 t (B85 t l++[B8e])).length≤200):
  B80 t (D5 t (D3 t) l).1 (D5 t (D3 t) (B85 t (B85 t l++[B8e]))).1:=by
 obtain ⟨r,hr⟩:=B91 t (B85 t l++[B8e])
 have hl1:(B85 t l++[B8e]).length≤200:=by rw [hr] at hl;simp only [List.length_append] at hl ⊢;omega
 have hl2:(B85 t l).length≤200:=by simp only [List.length_append] at hl1;omega
 obtain ⟨r2,hr2⟩:=B91 t l
 have hl3:l.length≤200:=by rw [hr2] at hl2;simp only [List.length_append] at hl2;omega
 have h1:=B6p ht hl2
 have h2:=B6p ht hl
 have hk1:=A3r ht hl2
 have hk:=A3r ht hl
 have e:(D5 t (D3 t) (B85 t l++[B8e])).1=(Z9 t (D5 t (D3 t) (B85 t l)).1).1:=by
  rw [A3g]
  show (I8 t _ B8e).1=_
  rw [B7g]
 rw [e] at h2
 have hst:(D5 t (D3 t) (B85 t l)).1.ctl.stage=0∨(D5 t (D3 t) (B85 t l)).1.ctl.stage=3:=by
  rw [h1.stage];unfold B8o;split
  ·exact .inl rfl
  ·exact .inr rfl
 obtain ⟨d1,d2,d3⟩:=B7o ht hst
 have hs0:=h2.stage.trans d1
 obtain ⟨g1,g2,g3,g4,_⟩:=B7x hk.1 hs0
 exact ⟨hs0,g1,h2.plans.trans (d2.trans h1.plans),h2.packets.trans (d3.trans h1.packets),g4,g2,g3⟩
open Go.RowKit
theorem C0u (t:C5) (n:Net) (l:List E0):I8 t n (B9y l)=T8 t n l:=by
 unfold I8 B9y
 rw [if_pos rfl]
def C0j (d:Do):Prop:=d.kind=2∨d.kind=3
theorem C0h (n:Net):∀ d∈B87 n,C0j d:=by
 intro d hd
 obtain ⟨s,_,hd⟩:=List.mem_flatMap.1 hd
 unfold B8z at hd
 rcases List.mem_append.1 hd with hd|hd
 ·obtain ⟨_,_,hd⟩:=List.mem_flatMap.1 hd
  rcases List.mem_cons.1 hd with rfl|hd
  ·exact .inl rfl
  ·obtain rfl:=List.mem_singleton.1 hd;exact .inr rfl
 ·obtain ⟨_,_,rfl⟩:=List.mem_map.1 hd;exact .inr rfl
theorem C04 (t:C5):∀ (k:Nat) (l:List Do),∃ r,B8f t k l=l++r∧∀ d∈r,C0j d
 |0,l=>⟨[],by simp [B8f],by simp⟩
 |k+1,l=>by
  unfold B8f
  split
  ·exact ⟨[],by simp,by simp⟩
  ·obtain ⟨r,hr,hc⟩:=C04 t k (l++B87 (D9 t l).1)
   exact ⟨B87 (D9 t l).1++r,by rw [hr,List.append_assoc],fun d hd=>(List.mem_append.1 hd).elim (C0h _ d) (hc d)⟩
theorem C0c (t:C5) (l:List Do):∃ r,B85 t l=l++r∧∀ d∈r,C0j d:=C04 t 10 l
theorem B62 {f:Nat→List Do} (h:∀ s,(f s).length≤2):∀ l:List Nat,(l.flatMap f).length≤2 * l.length
 |[]=>Nat.zero_le _
 |a::l=>by
  rw [List.flatMap_cons,List.length_append,List.length_cons]
  have:=h a
  have:=B62 h l
  omega
theorem B7h {t:C5} {n:Net} (h:G7 t n):(B87 n).length≤2 * t.n.toNat:=by
 obtain ⟨p0,p,a,b,o,st,h⟩:=h
 rw [h.round]
 have hp2:∀ s,(B8d s (st s)).length≤2:=fun s=>by
  unfold B8d
  split
  ·simp
  ·split<;>simp
 have:=B62 hp2 (List.range t.n.toNat)
 rwa [List.length_range] at this
section
variable {t : C5} {n : Net} {k : Nat} {f : E0}
theorem C0r (h:(I1 t f).2=0) {v:Int} (h1:1≤v) (h2:v≤1000):D2 t v [f]=(⟨v,[f],[(I1 t f).1]⟩,(0,0)):=by
 have hg:=B0p h
 have hw:(D0 [f] t.n).1=0:=by
  apply Classical.byContradiction
  intro hc
  have h3:=h
  unfold I1 at h3
  rw [if_neg (by rw [hg.1];decide),if_pos hc] at h3
  exact hc h3
 unfold D2
 rw [if_neg (by rw [hg.1];decide),if_neg (by omega),if_neg (by rw [hw];decide),R0,if_pos h,R0]
 rfl
theorem C0g {v:Int} {p:F5} (h:J9 t v [f] p) (s:Int):(C6 p s).length≤1:=by
 apply Classical.byContradiction
 intro hc
 have h0:0<(C6 p s).length:=by omega
 have h1:1<(C6 p s).length:=by omega
 have hr:=List.pairwise_iff_getElem.1 (h.rise s) 0 1 h0 h1 (by decide)
 have key:∀ r∈C6 p s,r.ver=p.ver∧r.flow=0:=fun r hr=>by
  obtain ⟨g1,i,q,j,g2,g3,_⟩:=L8.1 hr
  have hi:=(List.getElem?_eq_some_iff.1 g2).1
  rw [h.plen] at hi
  simp only [List.length_cons,List.length_nil] at hi
  exact ⟨g1,by omega⟩
 have ha:=key _ (List.getElem_mem h0)
 have hb:=key _ (List.getElem_mem h1)
 have:=A08.1 hr
 omega
theorem C0q (h:G7 t n) (hf:F4 t k n) (hk:k≤900) (h0:n.ctl.stage=0) {l:List E0} (hp:(D2 t ((n.plans.length:Int)+1) l).2.1=0) (hfull:N5 n.ctl.now (D2 t ((n.plans.length:Int)+1) l).1 t.n.toNat=false):
    (T8 t n l).2=0∧(T8 t n l).1.plans=n.plans++[(D2 t ((n.plans.length:Int)+1) l).1]∧(T8 t n l).1.packets=n.packets∧(T8 t n l).1.ctl.stage≠0∧(T8 t n l).1.ctl.stage≠4∧(T8 t n l).1.ctl.now=n.ctl.now∧(T8 t n l).1.ctl.next=(D2 t ((n.plans.length:Int)+1) l).1:=by
  obtain ⟨_,_,hv,_⟩:=B7x h h0
  have hpn:=hf.pn
  have hup:up n.ctl.now.ver=(n.plans.length:Int)+1:=by rw [hv];exact A7s (by omega) (by omega)
  generalize hq:(D2 t ((n.plans.length:Int)+1) l)=Q at *
  have e:G9 n.ctl t l=((C0 (E6 ⟨1,n.ctl.now,Q.1,n.ctl.num,n.ctl.waits⟩ (L7 Q.1 t)).1 t).1,
     (E6 ⟨1,n.ctl.now,Q.1,n.ctl.num,n.ctl.waits⟩ (L7 Q.1 t)).2++(C0 (E6 ⟨1,n.ctl.now,Q.1,n.ctl.num,n.ctl.waits⟩ (L7 Q.1 t)).1 t).2,0):=by
    unfold G9
    rw [hup,hq,if_neg (by omega),if_neg (by rw [hp];decide),if_neg (by rw [hfull];decide)]
  have hs:=P7 ⟨1,n.ctl.now,Q.1,n.ctl.num,n.ctl.waits⟩ (L7 Q.1 t)
  generalize (E6 ⟨1,n.ctl.now,Q.1,n.ctl.num,n.ctl.waits⟩ (L7 Q.1 t)).1=c at *
  dsimp only at hs
  have hk4:=A4r (c:=c) (t:=t) (by omega)
  have hst:(C0 c t).1.stage≠0∧(C0 c t).1.stage≠4:=by
    by_cases hw:c.waits=[]
    · rcases B69 (t:=t) hw with ⟨q,_⟩|⟨q,_⟩|⟨q,_⟩|⟨q,_⟩<;>omega
    · have:C0 c t=(c,[]):=by unfold C0;rw [if_pos hw]
      rw [this]
      dsimp only
      omega
  unfold T8
  rw [e,if_neg (fun h=>h rfl)]
  exact ⟨rfl,by dsimp only;rw [hk4.2,hs.2.2],rfl,hst.1,hst.2,hk4.1.trans hs.2.1,hk4.2.trans hs.2.2⟩
def C0x (t:C5) (f:E0) (n:Net):Prop:=∀ p∈n.plans,p.flows=[f]∧p.paths=[(I1 t f).1]
theorem C0m (h:G7 t n) (hf:F4 t k n) (hk:k≤900) (ha:C0x t f n) (hw:(I1 t f).2=0) (h0:n.ctl.stage=0):
  (T8 t n [f]).2=0∧(T8 t n [f]).1.plans=n.plans++[⟨(n.plans.length:Int)+1,[f],[(I1 t f).1]⟩]:=by
 have hpn:=hf.pn
 have hp:=C0r hw (v:=(n.plans.length:Int)+1) (by omega) (by omega)
 have hfull:N5 n.ctl.now (D2 t ((n.plans.length:Int)+1) [f]).1 t.n.toNat=false:=by
  have h2:=A6v (t:=t) (v:=(n.plans.length:Int)+1) (l:=[f]) (by rw [hp])
  unfold N5
  rw [List.any_eq_false]
  intro s _
  have g1:=C0g h2 (s:Int)
  have g2:(C6 n.ctl.now (s:Int)).length≤1:=by
   obtain ⟨hpl,hip,_⟩:=h.plans
   rcases hip with e|⟨e1,e2⟩
   ·rw [e];simp [E2,C6,D4]
   ·obtain ⟨_,l,hok⟩:=hpl.each _ _ e2
    have hfl:=(ha _ (List.mem_of_getElem? e2)).1
    obtain rfl:l=[f]:=by rw [←hok.flows];exact hfl
    exact C0g hok _
  unfold A36
  simp only [decide_eq_true_eq]
  omega
 obtain ⟨q1,q2,_⟩:=C0q h hf hk h0 (l:=[f]) (by rw [hp]) hfull
 exact ⟨q1,by rw [q2,hp]⟩
end
def C0e (t:C5) (f:E0) (l:List Do):List Do:=B85 t (B85 t (l++[B9y [f]])++[B8e])
def C02 (t:C5) (f:E0):Nat→List Do
 |0=>[]
 |k+1=>C0e t f (C02 t f k)
theorem C09 (t:C5) (f:E0) (l:List Do):∃ r,C0e t f l=l++[B9y [f]]++r∧∀ d∈r,C0j d∨d=B8e:=by
 obtain ⟨r1,h1,g1⟩:=C0c t (l++[B9y [f]])
 obtain ⟨r2,h2,g2⟩:=C0c t (B85 t (l++[B9y [f]])++[B8e])
 refine ⟨r1++[B8e]++r2,by unfold C0e;rw [h2,h1];simp,fun d hd=>?_⟩
 rcases List.mem_append.1 hd with hd|hd
 ·rcases List.mem_append.1 hd with hd|hd
  ·exact .inl (g1 d hd)
  ·exact .inr (List.mem_singleton.1 hd)
 ·exact .inl (g2 d hd)
structure C0p (t:C5) (f:E0) (k:Nat) (n:Net):Prop where
 stage:n.ctl.stage=0
 len:n.plans.length=k
 all:C0x t f n
 ver:n.ctl.now.ver=k
theorem C0d {t:C5} {f:E0} (hw:(I1 t f).2=0) {l:List Do} {k:Nat} (hl:(C0e t f l).length≤200) (hm:C0p t f k (D5 t (D3 t) l).1):C0p t f (k+1) (D5 t (D3 t) (C0e t f l)).1:=by
 have ht:=(B0p hw).1
 obtain ⟨r,hr,_⟩:=C09 t f l
 have hl1:(l++[B9y [f]]).length≤200:=by rw [hr] at hl;rw [List.length_append] at hl;omega
 have hl2:l.length≤200:=by rw [List.length_append] at hl1;omega
 obtain ⟨hok,hfit⟩:=A3r ht hl2
 obtain ⟨g1,g2⟩:=C0m hok hfit (by omega) hm.all hw hm.stage
 have hS:=B6d ht (l:=l++[B9y [f]]) hl
 have e:(D5 t (D3 t) (l++[B9y [f]])).1=(T8 t (D5 t (D3 t) l).1 [f]).1:=by
  rw [A3g]
  show (I8 t _ (B9y [f])).1=_
  rw [C0u]
 rw [e] at hS
 have hp:=hS.plans
 rw [g2] at hp
 show C0p t f (k+1) (D5 t (D3 t) (B85 t (B85 t (l++[B9y [f]])++[B8e]))).1
 have hlen:(D5 t (D3 t) (B85 t (B85 t (l++[B9y [f]])++[B8e]))).1.plans.length=k+1:=by rw [hp,List.length_append,hm.len];rfl
 refine ⟨hS.stage,hlen,fun p hp2=>?_,by rw [hS.ver,hlen]⟩
 rw [hp] at hp2
 rcases List.mem_append.1 hp2 with h|h
 ·exact hm.all p h
 ·obtain rfl:=List.mem_singleton.1 h;exact ⟨rfl,rfl⟩
theorem C07 {t:C5} {f:E0} (hw:(I1 t f).2=0):∀ k,(C02 t f k).length≤200→C0p t f k (D5 t (D3 t) (C02 t f k)).1
 |0,_=>⟨rfl,rfl,fun p hp=>by simp [C02,D5,D3] at hp,rfl⟩
 |k+1,hl=>by
  obtain ⟨r,hr,_⟩:=C09 t f (C02 t f k)
  have hl2:(C02 t f k).length≤200:=by
   have:(C0e t f (C02 t f k)).length≤200:=hl
   rw [hr] at this
   simp only [List.length_append] at this
   omega
  exact C0d hw hl (C07 hw k hl2)
open Go.RowKit
def C06 (a:Nat):List Do:=B85 (H3 2) (B85 (H3 2) [B9y (List.replicate a (B98 0 1))]++[B8e])
def C0l (a b:Nat):Bool:=decide ((D9 (H3 2) (C06 a++[B9y (List.replicate b (B98 0 1))])).2.2.1=0) &&
 decide ((D9 (H3 2) (C06 a++[B9y (List.replicate b (B98 0 1))])).2.1[(C06 a).length]? =some (if a+b≤16 then 0 else 10))
theorem C0v:((List.range 13).all fun a=>(List.range 13).all fun b=>C0l a b)=true:=by decide+kernel
open Go.RowKit
theorem C05 {t:C5}:∀ (k:Nat) (l:List Do),(B8f t k l).length≤max l.length 216
 |0,l=>by unfold B8f;omega
 |k+1,l=>by
  unfold B8f
  split
  ·omega
  ·rename_i he
   have hno:B87 A75=[]:=rfl
   by_cases ht:(B6 t).1=0
   case neg=>
    exfalso;apply he
    have:(D9 t l).1=A75:=by unfold D9;rw [if_pos ht]
    rw [this];exact hno
   by_cases h2:l.length≤200
   case neg=>
    exfalso;apply he
    have:(D9 t l).1=A75:=by unfold D9;rw [if_neg (by rw [ht];decide),if_pos (by omega)]
    rw [this];exact hno
   have hok:=(A3r ht h2).1
   have h8:=(J8 ht).1.2.1
   have hr:=B7h hok
   have ih:=C05 (t:=t) k (l++B87 (D9 t l).1)
   rw [List.length_append] at ih
   rw [W2 ht h2] at ih ⊢
   dsimp only at ih ⊢
   omega
theorem C03 (t:C5) (l:List Do):(B85 t l).length≤max l.length 216:=C05 10 l
theorem C0a (t:C5) (f:E0):∀ k,(C02 t f k).length≤216+2 * k
 |0=>Nat.zero_le _
 |k+1=>by
  have h1:=C03 t (C02 t f k++[B9y [f]])
  have h2:=C03 t (B85 t (C02 t f k++[B9y [f]])++[B8e])
  have ih:=C0a t f k
  simp only [List.length_append,List.length_cons,List.length_nil] at h1 h2
  show (B85 t (B85 t (C02 t f k++[B9y [f]])++[B8e])).length≤_
  omega
end Go.St
