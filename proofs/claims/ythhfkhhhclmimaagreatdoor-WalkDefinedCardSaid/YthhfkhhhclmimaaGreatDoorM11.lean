/- A part of WalkG. No condition. -/
import Derived.Shelf.Small.Strs
import Derived.Shelf.Strconv.Itoa4
import Derived.Shelf.Strconv.ErrVarParseInt
import Derived.Shelf.Strings.Shaped
import Derived.Shelf.Strings.Repeat
import Derived.Shelf.Strings.BuilderCap
import Derived.Shelf.Slices.Turned
import Derived.Test.YthhfkhhhclmimaaGreatDoorProg
set_option linter.unusedVariables false
set_option linter.unusedSimpArgs false
open Go.Proofs.Tryz
namespace Go.Proofs
open Go.Shelf
def Tryz.Aw:Go.Shelf.Ren:=⟨fun | 137=>156 | 217=>257 | 266=>382 | n=>n,fun | 9=>9 | 5=>5 | 3=>3 | n=>n,fun | n=>n⟩
theorem Tryz.OJ:Go.Proofs.Lays.n137 Tryz.prog Tryz.Aw:={
 mixed:=by kernel_rfl
 f137:=Tryz.func156.trans (congrArg some (by kernel_rfl))
 f217:=Tryz.func257.trans (congrArg some (by kernel_rfl))
 f266:=Tryz.func382.trans (congrArg some (by kernel_rfl))
 t3:=Tryz.underlying3
 a3:=Tryz.isAgg3
 z3:=Tryz.sizeOf3
 v3:=Tryz.zeroValue3
 t5:=Tryz.underlying5
 a5:=Tryz.isAgg5
 z5:=Tryz.sizeOf5
 v5:=Tryz.zeroValue5
 t9:=Tryz.underlying9
 a9:=Tryz.isAgg9
 z9:=Tryz.sizeOf9
 v9:=Tryz.zeroValue9 }
open Go.RowKit in
theorem Tryz.strings_IndexByte(s:ByteArray)(c:Int)(w:World) :
 Calls Tryz.prog 156 #[.string s,.int .u8 c] w fun e w'=>e=.returned (.int .i64 (Lib.indexByte s.data.toList c.toNat.toUInt8))/\w'=w:=Any.strings_IndexByte Tryz.OJ s c w
def Tryz.yS:Go.Shelf.Ren:=⟨fun | 173=>67 | 246=>117 | 283=>195 | 284=>196 | 285=>197 | 286=>198 | 129=>291 | 317=>290 | 318=>292 | 319=>293 | 320=>294 | 337=>403 | 338=>404 | n=>n,fun | 2=>2 | 3=>3 | 9=>9 | 4=>4 | 171=>286 | 0=>0 | 53=>182 | 37=>143 | 5=>5 | 173=>289 | 212=>360 | 51=>361 | 20=>20 | 213=>362 | 46=>179 | 232=>420 | 233=>421 | n=>n,fun | 17=>0 | 18=>4 | 19=>5 | n=>n⟩
theorem Tryz.KG:Go.Proofs.LaysM.n173 Tryz.prog Tryz.yS:={
 mixed:=by kernel_rfl
 f129:=Tryz.func291.trans (congrArg some (by kernel_rfl))
 f173:=Tryz.func67.trans (congrArg some (by kernel_rfl))
 f246:=Tryz.func117.trans (congrArg some (by kernel_rfl))
 f283:=Tryz.func195.trans (congrArg some (by kernel_rfl))
 f284:=Tryz.func196.trans (congrArg some (by kernel_rfl))
 f285:=Tryz.func197.trans (congrArg some (by kernel_rfl))
 f286:=Tryz.func198.trans (congrArg some (by kernel_rfl))
 f317:=Tryz.func290.trans (congrArg some (by kernel_rfl))
 f318:=Tryz.func292.trans (congrArg some (by kernel_rfl))
 f319:=Tryz.func293.trans (congrArg some (by kernel_rfl))
 f320:=Tryz.func294.trans (congrArg some (by kernel_rfl))
 f337:=Tryz.func403.trans (congrArg some (by kernel_rfl))
 f338:=Tryz.func404.trans (congrArg some (by kernel_rfl))
 t0:=Tryz.underlying0
 a0:=Tryz.isAgg0
 z0:=Tryz.sizeOf0
 v0:=Tryz.zeroValue0
 t2:=Tryz.underlying2
 a2:=Tryz.isAgg2
 z2:=Tryz.sizeOf2
 v2:=Tryz.zeroValue2
 t3:=Tryz.underlying3
 a3:=Tryz.isAgg3
 z3:=Tryz.sizeOf3
 v3:=Tryz.zeroValue3
 t4:=Tryz.underlying4
 a4:=Tryz.isAgg4
 z4:=Tryz.sizeOf4
 v4:=Tryz.zeroValue4
 t5:=Tryz.underlying5
 a5:=Tryz.isAgg5
 z5:=Tryz.sizeOf5
 v5:=Tryz.zeroValue5
 t9:=Tryz.underlying9
 a9:=Tryz.isAgg9
 z9:=Tryz.sizeOf9
 v9:=Tryz.zeroValue9
 t20:=Tryz.underlying20
 a20:=Tryz.isAgg20
 z20:=Tryz.sizeOf20
 v20:=Tryz.zeroValue20
 t37:=Tryz.underlying143
 a37:=Tryz.isAgg143
 z37:=Tryz.sizeOf143
 v37:=Tryz.zeroValue143
 t46:=Tryz.underlying179
 a46:=Tryz.isAgg179
 z46:=Tryz.sizeOf179
 v46:=Tryz.zeroValue179
 t51:=Tryz.underlying361
 a51:=Tryz.isAgg361
 z51:=Tryz.sizeOf361
 v51:=Tryz.zeroValue361
 t53:=Tryz.underlying182
 a53:=Tryz.isAgg182
 z53:=Tryz.sizeOf182
 v53:=Tryz.zeroValue182
 t171:=Tryz.underlying286
 a171:=Tryz.isAgg286
 z171:=Tryz.sizeOf286
 v171:=Tryz.zeroValue286
 t173:=Tryz.underlying289
 a173:=Tryz.isAgg289
 z173:=Tryz.sizeOf289
 v173:=Tryz.zeroValue289
 t212:=Tryz.underlying360
 a212:=Tryz.isAgg360
 z212:=Tryz.sizeOf360
 v212:=Tryz.zeroValue360
 t213:=Tryz.underlying362
 a213:=Tryz.isAgg362
 z213:=Tryz.sizeOf362
 t232:=Tryz.underlying420
 a232:=Tryz.isAgg420
 z232:=Tryz.sizeOf420
 v232:=Tryz.zeroValue420
 t233:=Tryz.underlying421
 a233:=Tryz.isAgg421
 z233:=Tryz.sizeOf421
 v233:=Tryz.zeroValue421
 g17:=by kernel_rfl
 g18:=by kernel_rfl
 g19:=by kernel_rfl
 i0:=by kernel_rfl
 i2:=by kernel_rfl
 i3:=by kernel_rfl
 i4:=by kernel_rfl
 i5:=by kernel_rfl
 i9:=by kernel_rfl
 i20:=by kernel_rfl
 i37:=by kernel_rfl
 i46:=by kernel_rfl
 i51:=by kernel_rfl
 i53:=by kernel_rfl
 i171:=by kernel_rfl
 i173:=by kernel_rfl
 i212:=by kernel_rfl
 i232:=by kernel_rfl
 i233:=by kernel_rfl
 m17:=by kernel_rfl
 m18:=by kernel_rfl
 m19:=by kernel_rfl }
open Go.RowKit Go.Sort Go.Lib in
theorem Tryz.strconv_FormatInt_10(n : Int)(h0 : -9223372036854775808 <= n)(h1 : n <= 9223372036854775807)(w : World)(htab : Lib.TabIs Tryz.prog w "internal/strconv.uint64pow10" .u64 Lib.pow10Tab) :
 Calls Tryz.prog 67 #[.int .i64 n,.int .i64 10] w fun e w'=>e=.returned (.string ⟨(Lib.itoa n).toArray⟩)/\∃ k os,w'=grow (w.drewN k) os:=Any.strconv_FormatInt_10 Tryz.KG n h0 h1 w htab
def Tryz.sZ:Go.Shelf.Ren:=⟨fun | 105=>425 | 212=>429 | 99=>430 | 165=>431 | 166=>66 | 170=>432 | 169=>69 | 263=>433 | 264=>434 | 206=>435 | 240=>116 | 241=>436 | 276=>194 | 277=>437 | n=>n,fun | 9=>9 | 3=>3 | 4=>4 | 20=>20 | 0=>0 | 46=>179 | 109=>424 | 5=>5 | 72=>145 | 76=>148 | 51=>361 | 146=>415 | 53=>182 | 148=>428 | 70=>142 | 37=>143 | 75=>147 | 127=>230 | 164=>284 | 80=>71 | n=>n,fun | n=>n⟩
theorem Tryz.OL:Go.Proofs.Lays.n105 Tryz.prog Tryz.sZ:={
 mixed:=by kernel_rfl
 f99:=Tryz.func430.trans (congrArg some (by kernel_rfl))
 f105:=Tryz.func425.trans (congrArg some (by kernel_rfl))
 f165:=Tryz.func431.trans (congrArg some (by kernel_rfl))
 f166:=Tryz.func66.trans (congrArg some (by kernel_rfl))
 f169:=Tryz.func69.trans (congrArg some (by kernel_rfl))
 f170:=Tryz.func432.trans (congrArg some (by kernel_rfl))
 f206:=Tryz.func435.trans (congrArg some (by kernel_rfl))
 f212:=Tryz.func429.trans (congrArg some (by kernel_rfl))
 f240:=Tryz.func116.trans (congrArg some (by kernel_rfl))
 f241:=Tryz.func436.trans (congrArg some (by kernel_rfl))
 f263:=Tryz.func433.trans (congrArg some (by kernel_rfl))
 f264:=Tryz.func434.trans (congrArg some (by kernel_rfl))
 f276:=Tryz.func194.trans (congrArg some (by kernel_rfl))
 f277:=Tryz.func437.trans (congrArg some (by kernel_rfl))
 t0:=Tryz.underlying0
 a0:=Tryz.isAgg0
 z0:=Tryz.sizeOf0
 v0:=Tryz.zeroValue0
 t3:=Tryz.underlying3
 a3:=Tryz.isAgg3
 z3:=Tryz.sizeOf3
 v3:=Tryz.zeroValue3
 t4:=Tryz.underlying4
 a4:=Tryz.isAgg4
 z4:=Tryz.sizeOf4
 v4:=Tryz.zeroValue4
 t5:=Tryz.underlying5
 a5:=Tryz.isAgg5
 z5:=Tryz.sizeOf5
 v5:=Tryz.zeroValue5
 t9:=Tryz.underlying9
 a9:=Tryz.isAgg9
 z9:=Tryz.sizeOf9
 v9:=Tryz.zeroValue9
 t20:=Tryz.underlying20
 a20:=Tryz.isAgg20
 z20:=Tryz.sizeOf20
 v20:=Tryz.zeroValue20
 t37:=Tryz.underlying143
 a37:=Tryz.isAgg143
 z37:=Tryz.sizeOf143
 v37:=Tryz.zeroValue143
 t46:=Tryz.underlying179
 a46:=Tryz.isAgg179
 z46:=Tryz.sizeOf179
 v46:=Tryz.zeroValue179
 t51:=Tryz.underlying361
 a51:=Tryz.isAgg361
 z51:=Tryz.sizeOf361
 v51:=Tryz.zeroValue361
 t53:=Tryz.underlying182
 a53:=Tryz.isAgg182
 z53:=Tryz.sizeOf182
 v53:=Tryz.zeroValue182
 t70:=Tryz.underlying142
 a70:=Tryz.isAgg142
 z70:=Tryz.sizeOf142
 v70:=Tryz.zeroValue142
 t72:=Tryz.underlying145
 a72:=Tryz.isAgg145
 z72:=Tryz.sizeOf145
 v72:=Tryz.zeroValue145
 t75:=Tryz.underlying147
 a75:=Tryz.isAgg147
 z75:=Tryz.sizeOf147
 v75:=Tryz.zeroValue147
 t76:=Tryz.underlying148
 a76:=Tryz.isAgg148
 z76:=Tryz.sizeOf148
 v76:=Tryz.zeroValue148
 t109:=Tryz.underlying424
 a109:=Tryz.isAgg424
 z109:=Tryz.sizeOf424
 v109:=Tryz.zeroValue424
 t127:=Tryz.underlying230
 a127:=Tryz.isAgg230
 z127:=Tryz.sizeOf230
 v127:=Tryz.zeroValue230
 t146:=Tryz.underlying415
 a146:=Tryz.isAgg415
 z146:=Tryz.sizeOf415
 v146:=Tryz.zeroValue415
 t148:=Tryz.underlying428
 a148:=Tryz.isAgg428
 z148:=Tryz.sizeOf428
 v148:=Tryz.zeroValue428
 t164:=Tryz.underlying284
 a164:=Tryz.isAgg284
 z164:=Tryz.sizeOf284
 v164:=Tryz.zeroValue284 }
theorem Tryz.rn:Builder.Extra Tryz.prog Tryz.sZ:={
 sizeBuilder:=by kernel_rfl
 liesBuilder:=by kernel_rfl
 t5:=Tryz.underlying5
 a5:=Tryz.isAgg5
 z5:=Tryz.sizeOf5
 v5:=Tryz.zeroValue5
 infoByte:=by kernel_rfl
 cellsByte:=by kernel_rfl
 sizeByte:=by kernel_rfl
 neB5:=by decide }
open Go.RowKit Go.Lib in
theorem Tryz.strings_Repeat(s:ByteArray)(c:Nat)(w:World)(hc:c<=9223372036854775807)(hlen:s.size*c<=140737488355328) :
 Calls Tryz.prog 425 #[.string s,.int .i64 c] w fun e w'=>e=.returned (.string ⟨(Lib.repeatL s.data.toList c).toArray⟩)/\Below w.heap.size w w':=Any.strings_Repeat Tryz.OL Tryz.rn s c w hc hlen
end Go.Proofs
