/- Texts of this proof, one behind the other. -/
import Derived.Test.YtampcbncgofkoaaGreatDoorPk25
set_option linter.unusedSimpArgs false
set_option linter.unusedVariables false
set_option maxRecDepth 100000
set_option maxHeartbeats 16000000
namespace Go.Proofs.YtampcbncgofkoaaGreatDoor
open Go.RowKit Go.St
theorem A1v:(Tryz.prog.info? 72).map (fun i=>(i.zero,i.size,i.bytes))=some (some (.slice none 0 0),1,24):=by kernel_rfl
theorem A2w:(Tryz.prog.info? 56).map (fun i=>(i.zero,i.size,i.bytes))=some (some (.agg #[.int .i64 0,.int .i64 0,.slice none 0 0,.slice none 0 0]),4,64):=by kernel_rfl
theorem A7z (l:List Int) (ok:Nat→Prop) (ax:Option Addr) (cx:Nat) (w:World) (hx:A8 C2 ok w ax cx l) (hsm:l.length≤1000000):
    Calls Tryz.prog 16 #[.slice ax l.length cx] w fun e w'=>∃ ao cap,e=.returned (.slice ao l.length cap)∧A8 C2 (fun b=>w.heap.size≤b) w' ao cap l∧Below w.heap.size w w':=by
  cases ax with
  |none=>
    have hnil:=O7 (P:=Tryz.prog) 41 3 Tryz.underlying41
    obtain rfl:l=[]:=by
      obtain ⟨_,_,h|⟨_,_,h,_⟩⟩:=hx
      · exact h
      · cases h
    go_enter Tryz.func16,Tryz.ntmps16
    go_wp2
    go_ret;exact ⟨none,0,rfl,A8.nil _ _ _ _,by (repeat' (first|with_reducible (first|exact Below.refl _ _|assumption|refine Below.drew ?_|refine A3 ?_ _|refine Below.alloc ?_ ?_ _|refine Below.setCell ?_ ?_ _)|omega|(simp;done)|(simp;omega)))⟩
  |some a=>exact (B21 l ok _ cx w hx (by simp) hsm).mono fun e w' ⟨ao,cap,h1,h2,_,h3⟩=>⟨ao,cap,h1,h2,h3⟩
def SP (pb fb:Nat) (af:Option Addr) (j cf:Nat) (f:E0) (va:Option Addr) (vc:Nat) (na:Option Addr) (nc:Nat) (w:World):Prop:=
 w.cell? ⟨pb,1,none⟩=some (.slice af j cf)∧w.cell? ⟨fb,0,none⟩=some (.int .i64 f.src)∧w.cell? ⟨fb,1,none⟩=some (.int .i64 f.dst)∧w.cell? ⟨fb,2,none⟩=some (.slice va f.via.length vc)∧w.cell? ⟨fb,3,none⟩=some (.slice na f.no.length nc)
theorem SP.of {pb fb:Nat} {af:Option Addr} {j cf:Nat} {f:E0} {va:Option Addr} {vc:Nat} {na:Option Addr} {nc:Nat} {w:World} {tp tf:TypeId} {x0 x2:Value} (h1:A6 w pb tp #[x0,.slice af j cf,x2])
  (h2:A6 w fb tf #[.int .i64 f.src,.int .i64 f.dst,.slice va f.via.length vc,.slice na f.no.length nc]):SP pb fb af j cf f va vc na nc w:=
 ⟨h1.cells.1 1,h2.cells.1 0,h2.cells.1 1,h2.cells.1 2,h2.cells.1 3⟩
end Go.Proofs.YtampcbncgofkoaaGreatDoor
