/- Texts of this proof, one behind the other. -/
import Derived.SizedLaws
import Derived.Test.YtampcbncgofkoaaGreatDoorPk40
import Derived.Test.YtampcbncgofkoaaGreatDoorPk13
set_option linter.unusedSimpArgs false
set_option linter.unusedVariables false
set_option maxRecDepth 100000
set_option maxHeartbeats 16000000
namespace Go.St
open Go.RowKit
theorem A0g.open8 {ok:Nat→Prop} {w:World} {cs:List Value} {n:Net} (h:A0g.rep ok w cs n):∃ n0 n1 n2 y0 y1 y2 wa wc sa sc oa oc ba bc pa pc la lc,cs=[.int .i64 n.ctl.stage,n0,n1,n2,y0,y1,y2,.int .i64 n.ctl.num,.slice wa n.ctl.waits.length wc,.slice sa n.switches.length sc,.slice oa n.orders.length oc,.slice ba n.backs.length bc,.slice pa n.packets.length pc,.slice la n.plans.length lc]∧
  I64 n.ctl.stage∧I64 n.ctl.num∧B7 w ok n0 n1 n2 n.ctl.now∧B7 w ok y0 y1 y2 n.ctl.next∧A8 C2 ok w wa wc n.ctl.waits∧A8 E8 ok w sa sc n.switches∧A8 (F7 E3) ok w oa oc n.orders∧A8 (F7 C2) ok w ba bc n.backs∧A8 K0 ok w pa pc n.packets∧A8 C3 ok w la lc n.plans:=by
 obtain ⟨ks,sa,sc,oa,oc,ba,bc,pa,pc,la,lc,rfl,hkc,hks,hko,hkb,hkp,hkl⟩:=h
 obtain ⟨n0,n1,n2,y0,y1,y2,wa,wc,rfl,hst,hnu,hnow,hnext,hwt⟩:=P3.open_ hkc
 exact ⟨n0,n1,n2,y0,y1,y2,wa,wc,sa,sc,oa,oc,ba,bc,pa,pc,la,lc,rfl,hst,hnu,hnow,hnext,hwt,hks,hko,hkb,hkp,hkl⟩
end Go.St
