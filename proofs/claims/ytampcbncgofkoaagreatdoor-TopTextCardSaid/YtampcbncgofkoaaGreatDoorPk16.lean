/- Texts of this proof, one behind the other. -/
import Derived.Test.YtampcbncgofkoaaGreatDoorRows
import Derived.WalkKit
import Derived.WalkSpells
import Derived.WalkLawsBesides
import Derived.Lib.Hide
import Derived.Deep.LoopGhost
import Derived.Deep.QuietTactic
import Derived.BigQuiet
import Derived.Deep.RegionWith
import Derived.Handy
import Derived.Test.YtampcbncgofkoaaGreatDoorPk3
set_option linter.unusedSimpArgs false
set_option linter.unusedVariables false
set_option maxRecDepth 100000
set_option maxHeartbeats 16000000
namespace Go.Proofs.YtampcbncgofkoaaGreatDoor
open Go.RowKit Go.St
def B38 (b:Bool):Int:=if b then 0 else 3
def L6 (l:List Int) (j:Nat):Int:=if j=0 then -1 else l.getD (j - 1) 0
theorem A4x {l:List Int} {j:Nat} (h:j<l.length) (hi:H7 (-1) l=H7 (L6 l j) (l.drop j)):
  H7 (-1) l=(decide (L6 l j<l[j]) && (decide (0≤l[j]) && (decide (l[j]<12) && H7 (L6 l (j+1)) (l.drop (j+1))))):=by
 rw [hi,W3 h]
 simp [H7,L6,h]
theorem A5j {l:List Int} {j:Nat} (h:j<l.length) (hi:H7 (-1) l=H7 (L6 l j) (l.drop j)) (hb:l[j]≤L6 l j∨l[j]<0∨12≤l[j]):H7 (-1) l=false:=by
 rw [A4x h hi]
 simp only [Bool.and_eq_false_iff,decide_eq_false_iff_not];omega
theorem A53 {l:List Int} {j:Nat} (h:j<l.length) (hi:H7 (-1) l=H7 (L6 l j) (l.drop j)) (h1:L6 l j<l[j]) (h2:0≤l[j]) (h3:l[j]<12):H7 (-1) l=H7 (L6 l (j+1)) (l.drop (j+1)):=by
 rw [A4x h hi]
 simp [h1,h2,h3]
theorem B1j {l:List Int} {j:Nat} (h:j=l.length) (hi:H7 (-1) l=H7 (L6 l j) (l.drop j)):H7 (-1) l=true:=by
 rw [hi,h,List.drop_length];rfl
theorem B0w {l:List C1} {v:Int} {j:Nat} (h:j<l.length) (hi:l.all (O1 v)=(l.drop j).all (O1 v)) (hb:l[j].ver≠v∨l[j].flow<0∨12≤l[j].flow∨l[j].next<0∨8≤l[j].next):l.all (O1 v)=false:=by
 rw [A8d h hi]
 simp only [O1,Bool.and_eq_false_iff,decide_eq_false_iff_not,beq_eq_false_iff_ne];omega
theorem A9h {l:List C1} {v:Int} {j:Nat} (h:j<l.length) (hi:l.all (O1 v)=(l.drop j).all (O1 v)) (h1:l[j].ver=v) (h2:0≤l[j].flow) (h3:l[j].flow<12) (h4:0≤l[j].next) (h5:l[j].next<8):l.all (O1 v)=(l.drop (j+1)).all (O1 v):=by
 rw [A8d h hi]
 simp [O1,h1,h2,h3,h4,h5]
theorem B1s {l:List C1} {v:Int} {j:Nat} (h:j=l.length) (hi:l.all (O1 v)=(l.drop j).all (O1 v)):l.all (O1 v)=true:=by
 rw [hi,h,List.drop_length];rfl
theorem A5c (k n v:Int) (ra fa:Option Addr) (rl rc fl fc:Nat) (w:World) (hh:¬(1≤n∧n≤100000∧1≤v∧v≤1000)):
  Calls Tryz.prog 61 #[.agg #[.int .i64 k,.int .i64 n,.int .i64 v,.slice ra rl rc,.slice fa fl fc]] w fun e w'=>e=.returned (.int .i64 3)∧Below w.heap.size w w':=by
 go_enter Tryz.func61,Tryz.ntmps61
 go_wp2
 all_goals (go_ret;exact ⟨rfl,by (repeat' (first|with_reducible (first|exact Below.refl _ _|assumption|refine Below.drew ?_|refine A3 ?_ _|refine Below.alloc ?_ ?_ _|refine Below.setCell ?_ ?_ _)|omega|(simp;done)|(simp;omega)))⟩)
theorem A5e (n v:Int) (ra fa:Option Addr) (rc fl fc:Nat) (rs:List C1) (ok:Nat→Prop) (w:World) (hr:A8 G6 ok w ra rc rs) (h1:1≤n) (h2:n≤100000) (h3:1≤v) (h4:v≤1000) (hm':rs.length≤16):
  Calls Tryz.prog 61 #[.agg #[.int .i64 1,.int .i64 n,.int .i64 v,.slice ra rs.length rc,.slice fa fl fc]] w fun e w'=>e=.returned (.int .i64 (B38 (rs.all (O1 v))))∧Below w.heap.size w w':=by
 go_enter Tryz.func61,Tryz.ntmps61
 go_wp2
 go_loopw [36] (fun i wr=>∃ j:Nat,j≤rs.length∧i=.int .i64 j∧Hid (rs.all (O1 v)=(rs.drop j).all (O1 v))∧Below w.heap.size w wr∧w.heap.size<wr.heap.size∧wr.cell? ⟨w.heap.size,2,none⟩=some (.int .i64 v)) (fun i _=>rs.length - (intOf i).toNat)
 case atStart=>exact ⟨0,Nat.zero_le _,rfl,rfl,(Below.refl _ _).alloc (Nat.le_refl _) _,by simp,by simp [go_sem]⟩
 case round=>
  obtain ⟨j,hj,rfl,hall,hb,hsz,hc2⟩:=hrel
  by_cases hlt:j<rs.length
  ·obtain ⟨b,off,rfl,_,hbl,cs,hcs,hce⟩:=hr.get (List.getElem?_eq_getElem hlt)
   obtain ⟨rfl,hi1,hi2,hi3⟩:=hcs
   have e0:=B8 hb hbl (hce 0 _ rfl)
   have e1:=B8 hb hbl (hce 1 _ rfl)
   have e2:=B8 hb hbl (hce 2 _ rfl)
   clear hce
   simp only [G6,Nat.add_zero] at e0 e1 e2
   go_wp2
   case roundEnd=>
    go_roundw
    case rel=>refine ⟨j+1,by omega,by go_num,A9h hlt hall.out ?_ ?_ ?_ ?_ ?_,by (repeat' (first|with_reducible (first|exact Below.refl _ _|assumption|refine Below.drew ?_|refine A3 ?_ _|refine Below.alloc ?_ ?_ _|refine Below.setCell ?_ ?_ _)|omega|(simp;done)|(simp;omega))),by simp<;>omega,by go_simp⟩<;>omega
    case measure=>simp [intOf];omega
   all_goals (go_ret;exact ⟨I0 (by rw [B0w hlt hall.out (by omega)];rfl),by (repeat' (first|with_reducible (first|exact Below.refl _ _|assumption|refine Below.drew ?_|refine A3 ?_ _|refine Below.alloc ?_ ?_ _|refine Below.setCell ?_ ?_ _)|omega|(simp;done)|(simp;omega)))⟩)
  ·go_wp2
   go_ret;exact ⟨I0 (by rw [B1s (by omega) hall.out];rfl),by (repeat' (first|with_reducible (first|exact Below.refl _ _|assumption|refine Below.drew ?_|refine A3 ?_ _|refine Below.alloc ?_ ?_ _|refine Below.setCell ?_ ?_ _)|omega|(simp;done)|(simp;omega)))⟩
theorem A3k (n v:Int) (ra fa:Option Addr) (rl rc fc:Nat) (fs:List Int) (ok:Nat→Prop) (w:World) (hf:A8 C2 ok w fa fc fs) (h1:1≤n) (h2:n≤100000) (h3:1≤v) (h4:v≤1000) (hm':fs.length≤12):
  Calls Tryz.prog 61 #[.agg #[.int .i64 2,.int .i64 n,.int .i64 v,.slice ra rl rc,.slice fa fs.length fc]] w fun e w'=>e=.returned (.int .i64 (B38 (H7 (-1) fs)))∧Below w.heap.size w w':=by
 go_enter Tryz.func61,Tryz.ntmps61
 go_wp2
 go_loopw [75] (fun i wr=>∃ j:Nat,j≤fs.length∧i=.int .i64 j∧Hid (H7 (-1) fs=H7 (L6 fs j) (fs.drop j))∧Below w.heap.size w wr∧w.heap.size<wr.heap.size∧wr.cell? ⟨w.heap.size,4,none⟩=some (.slice fa fs.length fc)) (fun i _=>fs.length - (intOf i).toNat)
 case atStart=>exact ⟨0,Nat.zero_le _,rfl,rfl,(Below.refl _ _).alloc (Nat.le_refl _) _,by simp,by simp [go_sem]⟩
 case round=>
  obtain ⟨j,hj,rfl,hall,hb,hsz,hc2⟩:=hrel
  by_cases hlt:j<fs.length
  ·obtain ⟨b,off,rfl,_,hbl,cs,hcs,hce⟩:=hf.get (List.getElem?_eq_getElem hlt)
   obtain ⟨rfl,hi1⟩:=hcs
   have e0:=B8 hb hbl (hce 0 _ rfl)
   clear hce
   simp only [C2,Nat.add_zero,Nat.mul_one] at e0
   by_cases h0:j=0
   ·have hp:Hid (L6 fs j=-1):=by show _=_;simp [L6,h0]
    have hj0:¬(0:Int)<(j:Int):=by omega
    clear h0
    go_wp2
    case roundEnd=>
     go_roundw
     case rel=>refine ⟨j+1,by omega,by go_num,A53 hlt hall.out ?_ ?_ ?_,by (repeat' (first|with_reducible (first|exact Below.refl _ _|assumption|refine Below.drew ?_|refine A3 ?_ _|refine Below.alloc ?_ ?_ _|refine Below.setCell ?_ ?_ _)|omega|(simp;done)|(simp;omega))),by omega,by go_simp⟩<;>(first|omega|(rw [hp.out];omega))
     case measure=>simp [intOf];omega
    all_goals (go_ret;exact ⟨I0 (by rw [A5j hlt hall.out (by rw [hp.out];omega)];rfl),by (repeat' (first|with_reducible (first|exact Below.refl _ _|assumption|refine Below.drew ?_|refine A3 ?_ _|refine Below.alloc ?_ ?_ _|refine Below.setCell ?_ ?_ _)|omega|(simp;done)|(simp;omega)))⟩)
   ·have hlt':j - 1<fs.length:=by omega
    obtain ⟨b',off',hbb,_,hbl',cs',hcs',hce'⟩:=hf.get (List.getElem?_eq_getElem hlt')
    obtain ⟨rfl,rfl⟩:b=b'∧off=off':=by simpa using hbb
    obtain ⟨rfl,hi2⟩:=hcs'
    have e1:=B8 hb hbl (hce' 0 _ rfl)
    clear hce' hbb
    simp only [C2,Nat.add_zero,Nat.mul_one] at e1
    have hp:Hid (L6 fs j=fs[j - 1]):=by show _=_;simp [L6,h0,hlt']
    have hj0:(0:Int)<(j:Int):=by omega
    go_wp2
    case roundEnd=>
     go_roundw
     case rel=>refine ⟨j+1,by omega,by go_num,A53 hlt hall.out ?_ ?_ ?_,by (repeat' (first|with_reducible (first|exact Below.refl _ _|assumption|refine Below.drew ?_|refine A3 ?_ _|refine Below.alloc ?_ ?_ _|refine Below.setCell ?_ ?_ _)|omega|(simp;done)|(simp;omega))),by omega,by go_simp⟩<;>(first|omega|(rw [hp.out];omega))
     case measure=>simp [intOf];omega
    all_goals (go_ret;exact ⟨I0 (by rw [A5j hlt hall.out (by rw [hp.out];omega)];rfl),by (repeat' (first|with_reducible (first|exact Below.refl _ _|assumption|refine Below.drew ?_|refine A3 ?_ _|refine Below.alloc ?_ ?_ _|refine Below.setCell ?_ ?_ _)|omega|(simp;done)|(simp;omega)))⟩)
  ·go_wp2
   go_ret;exact ⟨I0 (by rw [B1j (by omega) hall.out];rfl),by (repeat' (first|with_reducible (first|exact Below.refl _ _|assumption|refine Below.drew ?_|refine A3 ?_ _|refine Below.alloc ?_ ?_ _|refine Below.setCell ?_ ?_ _)|omega|(simp;done)|(simp;omega)))⟩
theorem A7h (o:G3) (cs:List Value) (ok:Nat→Prop) (w:World) (h:E3.rep ok w cs o):
  Calls Tryz.prog 61 #[.agg cs.toArray] w fun e w'=>e=.returned (.int .i64 (F3 o))∧Below w.heap.size w w':=by
 obtain ⟨ra,rc,fa,fc,rfl,hk,hn,hv,hr,hf⟩:=h
 obtain ⟨k,n,v,rs,fs⟩:=o
 dsimp only at *
 unfold F3
 dsimp only
 by_cases hh:1≤n∧n≤100000∧1≤v∧v≤1000
 case neg=>
  rw [if_pos (by omega)]
  exact A5c k n v ra fa _ rc _ fc w hh
 obtain ⟨hn1,hn2,hv1,hv2⟩:=hh
 rw [if_neg (by omega)]
 by_cases hk1:k=1
 ·subst hk1
  rw [if_pos rfl]
  by_cases hm:16<rs.length
  ·rw [if_pos hm]
   go_enter Tryz.func61,Tryz.ntmps61
   go_wp2
   go_ret;exact ⟨rfl,by (repeat' (first|with_reducible (first|exact Below.refl _ _|assumption|refine Below.drew ?_|refine A3 ?_ _|refine Below.alloc ?_ ?_ _|refine Below.setCell ?_ ?_ _)|omega|(simp;done)|(simp;omega)))⟩
  rw [if_neg hm]
  exact A5e n v ra fa rc _ fc rs ok w hr hn1 hn2 hv1 hv2 (by omega)
 rw [if_neg hk1]
 by_cases hk2:k=2
 ·subst hk2
  rw [if_pos rfl]
  by_cases hm:12<fs.length
  ·rw [if_pos hm]
   go_enter Tryz.func61,Tryz.ntmps61
   go_wp2
   go_ret;exact ⟨rfl,by (repeat' (first|with_reducible (first|exact Below.refl _ _|assumption|refine Below.drew ?_|refine A3 ?_ _|refine Below.alloc ?_ ?_ _|refine Below.setCell ?_ ?_ _)|omega|(simp;done)|(simp;omega)))⟩
  rw [if_neg hm]
  exact A3k n v ra fa _ rc fc fs ok w hf hn1 hn2 hv1 hv2 (by omega)
 rw [if_neg hk2]
 by_cases hk3:k=3
 ·subst hk3
  rw [if_pos rfl]
  go_enter Tryz.func61,Tryz.ntmps61
  go_wp2
  go_ret;exact ⟨rfl,by (repeat' (first|with_reducible (first|exact Below.refl _ _|assumption|refine Below.drew ?_|refine A3 ?_ _|refine Below.alloc ?_ ?_ _|refine Below.setCell ?_ ?_ _)|omega|(simp;done)|(simp;omega)))⟩
 ·rw [if_neg hk3]
  go_enter Tryz.func61,Tryz.ntmps61
  go_wp2
  go_ret;exact ⟨rfl,by (repeat' (first|with_reducible (first|exact Below.refl _ _|assumption|refine Below.drew ?_|refine A3 ?_ _|refine Below.alloc ?_ ?_ _|refine Below.setCell ?_ ?_ _)|omega|(simp;done)|(simp;omega)))⟩
end Go.Proofs.YtampcbncgofkoaaGreatDoor
