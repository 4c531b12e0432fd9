/- Texts of this proof, one behind the other. -/
import Derived.Shelf.Strconv.Atoi
import Derived.Shelf.Strconv.Itoa0
import Derived.Shelf.Strconv.Itoa1
import Derived.Shelf.LaysM
import Derived.Shelf.Strconv.Itoa2
import Derived.Shelf.Strconv.Itoa3
import Derived.Shelf.Strings.Prefix
import Derived.Ground.Names2Prog
import Derived.Shelf.Slices.Clone
import Derived.Shelf.Slices.SearchI
import Derived.Shelf.Slices.Delete
import Derived.Shelf.Slices.Cells
import Derived.Shelf.Slices.Empties
import Derived.Ground.SlgnProg
import Derived.Shelf.SlicesE.Clone
import Derived.Test.YtampcbncgofkoaaGreatDoorProg
set_option linter.unusedSimpArgs false
set_option linter.unusedVariables false
set_option maxRecDepth 100000
set_option maxHeartbeats 16000000
namespace Go.Proofs
open Go.Shelf
def Tryz.lays172_ren:Go.Shelf.Ren:=⟨fun|172=>40|244=>56|245=>57|247=>69|279=>70|280=>71|281=>72|282=>73|287=>87|316=>88|171=>90|205=>89|321=>99|322=>100|243=>101|246=>105|283=>108|284=>109|285=>110|286=>111|129=>114|317=>113|318=>115|319=>116|320=>117|337=>118|338=>119|n=>n,fun|9=>9|3=>3|75=>116|76=>117|4=>4|5=>5|167=>154|37=>155|0=>0|85=>156|2=>2|168=>158|53=>173|175=>174|46=>176|210=>179|127=>189|145=>192|143=>190|21=>21|171=>197|173=>200|212=>204|51=>205|20=>20|213=>206|232=>209|233=>210|80=>211|n=>n,fun|15=>0|16=>1|17=>2|18=>3|19=>4|n=>n⟩
theorem Tryz.lays172:Go.Proofs.Lays.n172 Tryz.prog Tryz.lays172_ren:={
 mixed:=by kernel_rfl
 f129:=Tryz.func114.trans (congrArg some (by kernel_rfl))
 f171:=Tryz.func90.trans (congrArg some (by kernel_rfl))
 f172:=Tryz.func40.trans (congrArg some (by kernel_rfl))
 f205:=Tryz.func89.trans (congrArg some (by kernel_rfl))
 f243:=Tryz.func101.trans (congrArg some (by kernel_rfl))
 f244:=Tryz.func56.trans (congrArg some (by kernel_rfl))
 f245:=Tryz.func57.trans (congrArg some (by kernel_rfl))
 f246:=Tryz.func105.trans (congrArg some (by kernel_rfl))
 f247:=Tryz.func69.trans (congrArg some (by kernel_rfl))
 f279:=Tryz.func70.trans (congrArg some (by kernel_rfl))
 f280:=Tryz.func71.trans (congrArg some (by kernel_rfl))
 f281:=Tryz.func72.trans (congrArg some (by kernel_rfl))
 f282:=Tryz.func73.trans (congrArg some (by kernel_rfl))
 f283:=Tryz.func108.trans (congrArg some (by kernel_rfl))
 f284:=Tryz.func109.trans (congrArg some (by kernel_rfl))
 f285:=Tryz.func110.trans (congrArg some (by kernel_rfl))
 f286:=Tryz.func111.trans (congrArg some (by kernel_rfl))
 f287:=Tryz.func87.trans (congrArg some (by kernel_rfl))
 f316:=Tryz.func88.trans (congrArg some (by kernel_rfl))
 f317:=Tryz.func113.trans (congrArg some (by kernel_rfl))
 f318:=Tryz.func115.trans (congrArg some (by kernel_rfl))
 f319:=Tryz.func116.trans (congrArg some (by kernel_rfl))
 f320:=Tryz.func117.trans (congrArg some (by kernel_rfl))
 f321:=Tryz.func99.trans (congrArg some (by kernel_rfl))
 f322:=Tryz.func100.trans (congrArg some (by kernel_rfl))
 f337:=Tryz.func118.trans (congrArg some (by kernel_rfl))
 f338:=Tryz.func119.trans (congrArg some (by kernel_rfl))
 t0:=Tryz.underlying0
 a0:=Tryz.isAgg0
 z0:=Tryz.sizeOf0
 v0:=Tryz.zeroValue0
 t2:=Tryz.underlying2
 a2:=Tryz.isAgg2
 z2:=Tryz.sizeOf2
 v2:=Tryz.zeroValue2
 t3:=Tryz.underlying3
 a3:=Tryz.isAgg3
 z3:=Tryz.sizeOf3
 v3:=Tryz.zeroValue3
 t4:=Tryz.underlying4
 a4:=Tryz.isAgg4
 z4:=Tryz.sizeOf4
 v4:=Tryz.zeroValue4
 t5:=Tryz.underlying5
 a5:=Tryz.isAgg5
 z5:=Tryz.sizeOf5
 v5:=Tryz.zeroValue5
 t9:=Tryz.underlying9
 a9:=Tryz.isAgg9
 z9:=Tryz.sizeOf9
 v9:=Tryz.zeroValue9
 t20:=Tryz.underlying20
 a20:=Tryz.isAgg20
 z20:=Tryz.sizeOf20
 v20:=Tryz.zeroValue20
 t21:=Tryz.underlying21
 a21:=Tryz.isAgg21
 z21:=Tryz.sizeOf21
 v21:=Tryz.zeroValue21
 t37:=Tryz.underlying155
 a37:=Tryz.isAgg155
 z37:=Tryz.sizeOf155
 v37:=Tryz.zeroValue155
 t46:=Tryz.underlying176
 a46:=Tryz.isAgg176
 z46:=Tryz.sizeOf176
 v46:=Tryz.zeroValue176
 t51:=Tryz.underlying205
 a51:=Tryz.isAgg205
 z51:=Tryz.sizeOf205
 v51:=Tryz.zeroValue205
 t53:=Tryz.underlying173
 a53:=Tryz.isAgg173
 z53:=Tryz.sizeOf173
 v53:=Tryz.zeroValue173
 t75:=Tryz.underlying116
 a75:=Tryz.isAgg116
 z75:=Tryz.sizeOf116
 v75:=Tryz.zeroValue116
 t76:=Tryz.underlying117
 a76:=Tryz.isAgg117
 z76:=Tryz.sizeOf117
 v76:=Tryz.zeroValue117
 t85:=Tryz.underlying156
 a85:=Tryz.isAgg156
 z85:=Tryz.sizeOf156
 v85:=Tryz.zeroValue156
 t127:=Tryz.underlying189
 a127:=Tryz.isAgg189
 z127:=Tryz.sizeOf189
 v127:=Tryz.zeroValue189
 t143:=Tryz.underlying190
 a143:=Tryz.isAgg190
 z143:=Tryz.sizeOf190
 v143:=Tryz.zeroValue190
 t145:=Tryz.underlying192
 a145:=Tryz.isAgg192
 z145:=Tryz.sizeOf192
 v145:=Tryz.zeroValue192
 t167:=Tryz.underlying154
 a167:=Tryz.isAgg154
 z167:=Tryz.sizeOf154
 v167:=Tryz.zeroValue154
 t168:=Tryz.underlying158
 a168:=Tryz.isAgg158
 z168:=Tryz.sizeOf158
 v168:=Tryz.zeroValue158
 t171:=Tryz.underlying197
 a171:=Tryz.isAgg197
 z171:=Tryz.sizeOf197
 v171:=Tryz.zeroValue197
 t173:=Tryz.underlying200
 a173:=Tryz.isAgg200
 z173:=Tryz.sizeOf200
 v173:=Tryz.zeroValue200
 t175:=Tryz.underlying174
 a175:=Tryz.isAgg174
 z175:=Tryz.sizeOf174
 v175:=Tryz.zeroValue174
 t210:=Tryz.underlying179
 a210:=Tryz.isAgg179
 z210:=Tryz.sizeOf179
 v210:=Tryz.zeroValue179
 t212:=Tryz.underlying204
 a212:=Tryz.isAgg204
 z212:=Tryz.sizeOf204
 v212:=Tryz.zeroValue204
 t213:=Tryz.underlying206
 a213:=Tryz.isAgg206
 z213:=Tryz.sizeOf206
 t232:=Tryz.underlying209
 a232:=Tryz.isAgg209
 z232:=Tryz.sizeOf209
 v232:=Tryz.zeroValue209
 t233:=Tryz.underlying210
 a233:=Tryz.isAgg210
 z233:=Tryz.sizeOf210
 v233:=Tryz.zeroValue210
 g15:=by kernel_rfl
 g16:=by kernel_rfl
 g17:=by kernel_rfl
 g18:=by kernel_rfl
 g19:=by kernel_rfl}
open Go.RowKit in
theorem Tryz.strconv_Atoi (s:ByteArray) (n:Int) (hl:s.size≤18) (h:Lib.atoi s.data.toList=some n) (w:World):
  Calls Tryz.prog 40 #[.string s] w fun e w'=>e=.returned (.tuple #[.int .i64 n,.nilIface])∧∃ t,w'=Lib.bytesWorld w 5 t:=Any.strconv_Atoi Tryz.lays172 s n hl h w
def Tryz.lays99_ren:Go.Shelf.Ren:=⟨fun|99=>41|206=>58|n=>n,fun|9=>9|4=>4|3=>3|n=>n,fun|n=>n⟩
theorem Tryz.lays99:Go.Proofs.Lays.n99 Tryz.prog Tryz.lays99_ren:={
 mixed:=by kernel_rfl
 f99:=Tryz.func41.trans (congrArg some (by kernel_rfl))
 f206:=Tryz.func58.trans (congrArg some (by kernel_rfl))
 t3:=Tryz.underlying3
 a3:=Tryz.isAgg3
 z3:=Tryz.sizeOf3
 v3:=Tryz.zeroValue3
 t4:=Tryz.underlying4
 a4:=Tryz.isAgg4
 z4:=Tryz.sizeOf4
 v4:=Tryz.zeroValue4
 t9:=Tryz.underlying9
 a9:=Tryz.isAgg9
 z9:=Tryz.sizeOf9
 v9:=Tryz.zeroValue9}
open Go.RowKit Go.Lib in
theorem Tryz.strings_HasPrefix (s p:ByteArray) (w:World):
  Calls Tryz.prog 41 #[.string s,.string p] w fun e w'=>e=.returned (.bool (Lib.hasPrefix s.data.toList p.data.toList))∧w'=w:=Any.strings_HasPrefix Tryz.lays99 s p w
end Go.Proofs
