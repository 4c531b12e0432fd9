/- Texts of this proof, one behind the other. -/
import Derived.Test.YtampcbncgofkoaaQ1
import Derived.Test.YtampcbncgofkoaaPk35
set_option linter.unusedSimpArgs false
set_option linter.unusedVariables false
set_option maxRecDepth 100000
set_option maxHeartbeats 16000000
namespace Go.Proofs.Ytampcbncgofkoaa
open Go.RowKit Go.St
theorem B9r (t:C5) (f:E0) (cs ds:List Value) (ok ok':Nat→Prop) (w:World) (h:I5.rep ok w cs t) (hf:H6.rep ok' w ds f):
  Calls Try.prog 17 #[.agg cs.toArray,.agg ds.toArray] w fun e w'=>∃ ao cap,e=.returned (.tuple #[.slice ao (I1 t f).1.length cap,.int .i64 (I1 t f).2])∧A8 C2 (fun _=>True) w' ao cap (I1 t f).1∧Below w.heap.size w w':=
 (B5e t f cs ds ok ok' w h hf).mono fun e w' ⟨ao,cap,h1,h2,h3⟩=>⟨ao,cap,h1,h2.mono (fun b _ _=>⟨trivial,rfl⟩),h3⟩
end Go.Proofs.Ytampcbncgofkoaa
namespace Go.St
open Go.RowKit
theorem A8i (t:C5):∀ (l:List Do) (n:Net) (i:Nat) (d:Do),l[i]? =some d→(D5 t n l).2[i]? =some (I8 t (D5 t n (l.take i)).1 d).2
 |[],n,i,d,h=>by simp at h
 |x::l,n,0,d,h=>by
  obtain rfl:x=d:=by simpa using h
  rfl
 |x::l,n,i+1,d,h=>by
  rw [D5]
  simp only [List.getElem?_cons_succ,List.take_succ_cons]
  rw [A8i t l _ i d (by simpa using h),D5]
open Go.RowKit
section
variable {t : C5} {n : Net} {k : Nat} {f : E0}
theorem C2a (h0:n.ctl.stage≠0) (l:List E0):T8 t n l=(n,11):=by
 have e:G9 n.ctl t l=(Q6,[],11):=by unfold G9;rw [if_pos h0]
 unfold T8
 rw [e,if_pos (by decide)]
theorem C22 (t:C5) (n:Net) {d:Do} (hd:d.kind≠1):(I8 t n d).1.plans=n.plans:=by
 unfold I8
 rw [if_neg hd]
 split
 ·unfold L4
  split
  ·rfl
  ·split<;>rfl
 split
 ·unfold M7
  split
  ·rfl
  ·split<;>rfl
 split
 ·unfold J4
  split
  ·rfl
  ·split<;>rfl
 split
 ·exact (B7m n _).1
 split
 ·unfold Z9
  split<;>rfl
 ·rfl
theorem C27 (hf:F4 t k n) (hk:k≤5000) (l:List E0):(T8 t n l).1.plans=n.plans∨∃ q,(T8 t n l).1.plans=n.plans++[q]∧J9 t (up n.ctl.now.ver) l q:=by
 unfold T8
 split
 ·exact .inl rfl
 ·rename_i h0
  exact .inr ⟨_,rfl,(A6i hf.ctl (by omega) (Decidable.not_not.1 h0)).2.2.2⟩
theorem C24 (hf:F4 t k n) (hk:k≤5000) (h:C0x t f n) {d:Do} (hd:d.kind=1→d.flows=[f]):C0x t f (I8 t n d).1:=by
 by_cases h1:d.kind=1
 ·have e:I8 t n d=T8 t n d.flows:=by unfold I8;rw [if_pos h1]
  rw [e,hd h1]
  rcases C27 hf hk [f] with g|⟨q,g,hq⟩
  ·intro p hp;rw [g] at hp;exact h p hp
  ·intro p hp
   rw [g] at hp
   rcases List.mem_append.1 hp with hp|hp
   ·exact h p hp
   ·obtain rfl:=List.mem_singleton.1 hp;exact hq.one
 ·intro p hp
  rw [C22 t n h1] at hp
  exact h p hp
theorem C1y (hn:0≤t.n):∀ (l:List Do) (k:Nat) (n:Net),F4 t k n→k+l.length≤5000→C0x t f n→(∀ d∈l,d.kind=1→d.flows=[f])→C0x t f (D5 t n l).1
 |[],k,n,_,_,h,_=>h
 |d::l,k,n,hf,hk,h,hd=>by
  simp only [List.length_cons] at hk
  rw [D5]
  exact C1y hn l (k+1) _ (A3y hf (by omega) hn d) (by omega) (C24 hf (by omega) h (hd d (by simp))) (fun x hx=>hd x (List.mem_cons_of_mem _ hx))
end
theorem C23 {t:C5} {f:E0} {l:List Do} (h:∀ d∈l,d.kind=1→d.flows=[f]):∀ d∈C0e t f l,d.kind=1→d.flows=[f]:=by
 obtain ⟨r,hr,hc⟩:=C09 t f l
 intro d hd h1
 rw [hr] at hd
 rcases List.mem_append.1 hd with hd|hd
 ·rcases List.mem_append.1 hd with hd|hd
  ·exact h d hd h1
  ·obtain rfl:=List.mem_singleton.1 hd;rfl
 ·rcases hc d hd with (h2|h2)|h2
  ·rw [h1] at h2;exact absurd h2 (by decide)
  ·rw [h1] at h2;exact absurd h2 (by decide)
  ·subst h2;exact absurd h1 (by decide)
theorem C1w (t:C5) (f:E0):∀ k,∀ d∈C02 t f k,d.kind=1→d.flows=[f]
 |0=>fun d hd=>by simp [C02] at hd
 |k+1=>C23 (C1w t f k)
theorem C25 {t:C5} {f:E0} (hw:(I1 t f).2=0) {i:Nat} (hi:i≤(C02 t f 1).length):
  ((C02 t f 1).take i++[B9y [f]]).length≤200∧∃ e,(D5 t (D3 t) ((C02 t f 1).take i++[B9y [f]])).2[i]? =some e∧(((D5 t (D3 t) ((C02 t f 1).take i)).1.ctl.stage=0∧e=0)∨((D5 t (D3 t) ((C02 t f 1).take i)).1.ctl.stage≠0∧e=11)):=by
 have ht:=(B0p hw).1
 have hlen:(C02 t f 1).length≤66:=by
  have h1:=B7d ht (l:=[]++[B9y [f]]) (by simp)
  have h2:=B7d ht (l:=B85 t ([]++[B9y [f]])++[B8e]) (by rw [List.length_append];simp only [List.nil_append,List.length_cons,List.length_nil] at h1 ⊢;omega)
  rw [List.length_append] at h2
  simp only [List.nil_append,List.length_cons,List.length_nil] at h1 h2
  exact Nat.le_trans h2 (by omega)
 have hil:((C02 t f 1).take i).length=i:=by rw [List.length_take];omega
 have hn:=(J8 ht).1.1
 obtain ⟨hok,hfit⟩:=A3r ht (l:=(C02 t f 1).take i) (by omega)
 have hall:C0x t f (D5 t (D3 t) ((C02 t f 1).take i)).1:=C1y (by omega) _ 0 _ F4.start (by omega) (fun p hp=>by simp [D3] at hp) (fun d hd=>C1w t f 1 d (List.mem_of_mem_take hd))
 refine ⟨by rw [List.length_append,hil];simp only [List.length_cons,List.length_nil];omega,_,A8i t _ _ i (B9y [f]) (by rw [List.getElem?_append_right (by omega),hil,Nat.sub_self];rfl),?_⟩
 have hti:((C02 t f 1).take i++[B9y [f]]).take i=(C02 t f 1).take i:=by rw [List.take_append_of_le_length (by omega),List.take_of_length_le (by omega)]
 rw [hti,C0u]
 by_cases h0:(D5 t (D3 t) ((C02 t f 1).take i)).1.ctl.stage=0
 ·exact .inl ⟨h0,(C0m hok hfit (by omega) hall hw h0).1⟩
 ·exact .inr ⟨h0,by rw [C2a h0]⟩
end Go.St
