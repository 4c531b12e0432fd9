/- Texts of this proof, one behind the other. -/
import Derived.Deep.Quiet
import Derived.Test.YtampcbncgofkoaaGreatDoorPk1
set_option linter.unusedSimpArgs false
set_option linter.unusedVariables false
set_option maxRecDepth 100000
set_option maxHeartbeats 16000000
namespace Go.St
open Go.RowKit
theorem I0 {a b:Int} (h:a=b):Ending.returned (.int .i64 a)=.returned (.int .i64 b):=by rw [h]
theorem C13 {a b:Bool} (h:a=b):Ending.returned (.bool a)=.returned (.bool b):=by rw [h]
theorem W3 {α:Type} {l:List α} {j:Nat} (h:j<l.length):l.drop j=l[j]::l.drop (j+1):=List.drop_eq_getElem_cons h
theorem A8d {α:Type} {l:List α} {p:α→Bool} {j:Nat} (h:j<l.length) (hi:l.all p=(l.drop j).all p):l.all p=(p l[j] && (l.drop (j+1)).all p):=by
 rw [hi,W3 h,List.all_cons]
theorem B8 {w w':World} {B b o:Nat} {v:Value} (hb:Below B w w') (hB:b<B) (h:w.cell? ⟨b,o,none⟩=some v):w'.cell? ⟨b,o,none⟩=some v:=by
 rw [hb.cell (p:=⟨b,o,none⟩) hB];exact h
theorem A3 {B:Nat} {a w:World} (h:Below B a w) (n:Nat):Below B a (w.drewN n):=⟨h.os,h.tape,h.output,h.size,h.block⟩
end Go.St
