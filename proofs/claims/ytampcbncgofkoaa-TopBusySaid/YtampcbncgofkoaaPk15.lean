/- Texts of this proof, one behind the other. -/
import Derived.Test.YtampcbncgofkoaaRows
import Derived.WalkKit
import Derived.WalkSpells
import Derived.WalkLawsBesides
import Derived.Lib.Hide
import Derived.Deep.LoopGhost
import Derived.Deep.QuietTactic
import Derived.BigQuiet
import Derived.Deep.RegionWith
import Derived.Handy
import Derived.Test.YtampcbncgofkoaaPk4
set_option linter.unusedSimpArgs false
set_option linter.unusedVariables false
set_option maxRecDepth 100000
set_option maxHeartbeats 16000000
namespace Go.St
theorem B01 {ls:List X9} {a b c:Int} {j:Nat} (hj:j<ls.length) (h:c=Q7 a b (ls.drop j)) (hl:A31 a b ls[j]=false):c=Q7 a b (ls.drop (j+1)):=by
 rw [h,List.drop_eq_getElem_cons hj];simp [Q7,hl]
theorem A87 {ls:List X9} {a b c:Int} {j:Nat} (hj:j<ls.length) (h:c=Q7 a b (ls.drop j)) (hl:A31 a b ls[j]=true):c=ls[j].cost:=by
 rw [h,List.drop_eq_getElem_cons hj];simp [Q7,hl]
theorem A7u {ls:List X9} {a b c:Int} {j:Nat} (hj:¬j<ls.length) (h:c=Q7 a b (ls.drop j)):c=0:=by
 rw [h,List.drop_of_length_le (by omega)];rfl
end Go.St
namespace Go.Proofs.Ytampcbncgofkoaa
open Go.RowKit Go.St
theorem B3e (t:C5) (cs:List Value) (ok:Nat→Prop) (a b:Int) (w:World) (h:I5.rep ok w cs t):
  Calls Try.prog 27 #[.agg cs.toArray,.int .i64 a,.int .i64 b] w fun e w'=>e=.returned (.int .i64 (E9 t a b))∧Below w.heap.size w w':=by
 obtain ⟨la,lc,rfl,hn,hr⟩:=h
 obtain ⟨n,ls⟩:=t
 dsimp only at *
 have hlx:=hr.len_le
 have hst:Hid (E9 ⟨n,ls⟩ a b=Q7 a b (ls.drop 0)):=rfl
 generalize E9 ⟨n,ls⟩ a b=c at *
 go_enter Try.func27,Try.ntmps27
 go_wp2
 go_loopw [8,12] (fun _ i wr=>∃ j:Nat,j≤ls.length∧i=.int .i64 j∧Hid (c=Q7 a b (ls.drop j))∧Below w.heap.size w wr) (fun _ i _=>ls.length - (intOf i).toNat)
 case atStart=>exact ⟨0,Nat.zero_le _,rfl,hst,by (repeat' (first|with_reducible (first|exact Below.refl _ _|assumption|refine Below.drew ?_|refine A3 ?_ _|refine Below.alloc ?_ ?_ _|refine Below.setCell ?_ ?_ _)|omega|(simp;done)|(simp;omega)))⟩
 case round=>
  obtain ⟨j,hj,rfl,hall,hb⟩:=hrel
  have hsz:=hb.size
  by_cases hlt:j<ls.length
  ·obtain ⟨g,off,rfl,_,hbl,cs,hcs,hce⟩:=hr.get (List.getElem?_eq_getElem hlt)
   obtain ⟨rfl,_⟩:=hcs
   have e0:=B8 hb hbl (hce 0 _ rfl)
   have e1:=B8 hb hbl (hce 1 _ rfl)
   have e2:=B8 hb hbl (hce 2 _ rfl)
   clear hce
   simp only [A0e,Nat.add_zero] at e0 e1 e2
   have b0:(0:Int)≤(j:Int):=by omega
   have b1:(j:Int)<(ls.length:Int):=by omega
   have hgo:=B01 (c:=c) hlt hall.out
   have hhit:=A87 (c:=c) hlt hall.out
   generalize hx:ls[j]=x at *
   obtain ⟨xa,xb,xc⟩:=x
   simp only [A31] at hgo hhit
   dsimp only at *
   clear hx hall
   cases p1:(xa==a)<;>cases p2:(xb==b)<;>cases p3:(xa==b)<;>cases p4:(xb==a)<;>(first|(have HG:=Lib.hid (hgo (by simp only [p1,p2,p3,p4];rfl)))|(have HH:=Lib.hid (hhit (by simp only [p1,p2,p3,p4];rfl))))<;>clear hgo hhit<;>go_wp2
   all_goals first
    |(case roundEnd=>
      go_roundw
      case rel=>exact ⟨j+1,by omega,by go_num,HG,by (repeat' (first|with_reducible (first|exact Below.refl _ _|assumption|refine Below.drew ?_|refine A3 ?_ _|refine Below.alloc ?_ ?_ _|refine Below.setCell ?_ ?_ _)|omega|(simp;done)|(simp;omega)))⟩
      case measure=>simp [intOf];omega)
    |(go_ret;exact ⟨I0 HH.out.symm,by (repeat' (first|with_reducible (first|exact Below.refl _ _|assumption|refine Below.drew ?_|refine A3 ?_ _|refine Below.alloc ?_ ?_ _|refine Below.setCell ?_ ?_ _)|omega|(simp;done)|(simp;omega)))⟩)
  ·have HE:=Lib.hid (A7u hlt hall.out)
   have b1:¬(j:Int)<(ls.length:Int):=by omega
   clear hall
   go_wp2
   go_ret;exact ⟨I0 HE.out.symm,by (repeat' (first|with_reducible (first|exact Below.refl _ _|assumption|refine Below.drew ?_|refine A3 ?_ _|refine Below.alloc ?_ ?_ _|refine Below.setCell ?_ ?_ _)|omega|(simp;done)|(simp;omega)))⟩
end Go.Proofs.Ytampcbncgofkoaa
