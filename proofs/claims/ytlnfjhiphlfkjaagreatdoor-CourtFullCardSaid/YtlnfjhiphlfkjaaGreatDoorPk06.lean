/- Walks of functions, and plain laws, that the last text rests on. No condition. -/
import Derived.Shelf.Small.Bits
import Derived.Shelf.Strconv.Atoi
import Derived.Shelf.Strconv.Itoa0
import Derived.Shelf.Strconv.Itoa1
import Derived.Shelf.LaysM
import Derived.Shelf.Strconv.Itoa2
import Derived.Shelf.Strconv.Itoa3
import Derived.Shelf.Strconv.AtoiErrFast
import Derived.Shelf.Strconv.ParseIntEmpty
import Derived.Shelf.Strconv.AtoiFail
import Derived.Shelf.Strconv.Clone
import Derived.Shelf.Strconv.SyntaxError
import Derived.Shelf.LaysC
import Derived.Shelf.Strconv.ToError
import Derived.Shelf.Strconv.Lower
import Derived.Shelf.Strconv.ParseUint10
import Derived.Shelf.Strconv.ParseUint10Empty
import Derived.Shelf.Strconv.ParseUint10Any
import Derived.Shelf.Strconv.ParseInt10
import Derived.Shelf.Strconv.AtoiLong
import Derived.Shelf.Strconv.AtoiInnerAll
import Derived.Shelf.Strconv.RangeError
import Derived.Shelf.Strconv.ToErrorRange
import Derived.Shelf.Strconv.AtoiAll
import Derived.Shelf.Strconv.ErrVarAll
import Derived.Shelf.Sort.Plain
import Derived.Shelf.Slices.In.SortNone
import Derived.Test.YtlnfjhiphlfkjaaGreatDoorChecked
import Derived.Test.YtlnfjhiphlfkjaaGreatDoorCards
import Derived.Test.YtlnfjhiphlfkjaaGreatDoorTie
import Derived.Deep.DeepHandedRow
import Derived.Lib.LaidTab
import Derived.Stop.LaidErr
import Derived.Lay
import Derived.Test.YtlnfjhiphlfkjaaGreatDoorPk05
set_option linter.unusedVariables false
set_option linter.unusedSimpArgs false
set_option linter.unusedSectionVars false
set_option maxHeartbeats 4000000
namespace Go.Proofs
open Go.Shelf
def Tryz.lays172_ren :Go.Shelf.Ren:=⟨fun|172=>189|244=>231|245=>232|247=>260|279=>261|280=>262|281=>263|282=>264|287=>286|316=>287|171=>138|205=>288|321=>299|322=>300|243=>190|246=>233|283=>265|284=>266|285=>267|286=>268|129=>219|317=>289|318=>290|319=>291|320=>292|337=>301|338=>302|n=>n,fun|9=>9|3=>3|75=>276|76=>277|4=>4|5=>5|167=>340|37=>34|0=>0|85=>341|2=>2|168=>343|53=>31|175=>365|46=>88|210=>369|127=>378|145=>381|143=>379|21=>21|171=>346|173=>348|212=>373|51=>199|20=>20|213=>374|232=>384|233=>385|80=>386|n=>n,fun|15=>3|16=>4|17=>5|18=>6|19=>7|n=>n⟩
theorem Tryz.lays172 :Go.Proofs.Lays.n172 kY Tryz.lays172_ren:={
 mixed:=by kernel_rfl
 f129:=Tryz.func219.trans (jj some zk)
 f171:=Tryz.func138.trans (jj some zk)
 f172:=Tryz.func189.trans (jj some zk)
 f205:=Tryz.func288.trans (jj some zk)
 f243:=Tryz.func190.trans (jj some zk)
 f244:=Tryz.func231.trans (jj some zk)
 f245:=Tryz.func232.trans (jj some zk)
 f246:=Tryz.func233.trans (jj some zk)
 f247:=Tryz.func260.trans (jj some zk)
 f279:=Tryz.func261.trans (jj some zk)
 f280:=Tryz.func262.trans (jj some zk)
 f281:=Tryz.func263.trans (jj some zk)
 f282:=Tryz.func264.trans (jj some zk)
 f283:=Tryz.func265.trans (jj some zk)
 f284:=Tryz.func266.trans (jj some zk)
 f285:=Tryz.func267.trans (jj some zk)
 f286:=Tryz.func268.trans (jj some zk)
 f287:=Tryz.func286.trans (jj some zk)
 f316:=Tryz.func287.trans (jj some zk)
 f317:=Tryz.func289.trans (jj some zk)
 f318:=Tryz.func290.trans (jj some zk)
 f319:=Tryz.func291.trans (jj some zk)
 f320:=Tryz.func292.trans (jj some zk)
 f321:=Tryz.func299.trans (jj some zk)
 f322:=Tryz.func300.trans (jj some zk)
 f337:=Tryz.func301.trans (jj some zk)
 f338:=Tryz.func302.trans (jj some zk)
 t0:=Tryz.underlying0
 a0:=Tryz.isAgg0
 z0:=Tryz.sizeOf0
 v0:=Tryz.zeroValue0
 t2:=Tryz.underlying2
 a2:=Tryz.isAgg2
 z2:=Tryz.sizeOf2
 v2:=Tryz.zeroValue2
 t3:=Tryz.underlying3
 a3:=Tryz.isAgg3
 z3:=Tryz.sizeOf3
 v3:=Tryz.zeroValue3
 t4:=Tryz.underlying4
 a4:=Tryz.isAgg4
 z4:=Tryz.sizeOf4
 v4:=Tryz.zeroValue4
 t5:=Tryz.underlying5
 a5:=Tryz.isAgg5
 z5:=Tryz.sizeOf5
 v5:=Tryz.zeroValue5
 t9:=Tryz.underlying9
 a9:=Tryz.isAgg9
 z9:=Tryz.sizeOf9
 v9:=Tryz.zeroValue9
 t20:=Tryz.underlying20
 a20:=Tryz.isAgg20
 z20:=Tryz.sizeOf20
 v20:=Tryz.zeroValue20
 t21:=Tryz.underlying21
 a21:=Tryz.isAgg21
 z21:=Tryz.sizeOf21
 v21:=Tryz.zeroValue21
 t37:=Tryz.underlying34
 a37:=Tryz.isAgg34
 z37:=Tryz.sizeOf34
 v37:=Tryz.zeroValue34
 t46:=Tryz.underlying88
 a46:=Tryz.isAgg88
 z46:=Tryz.sizeOf88
 v46:=Tryz.zeroValue88
 t51:=Tryz.underlying199
 a51:=Tryz.isAgg199
 z51:=Tryz.sizeOf199
 v51:=Tryz.zeroValue199
 t53:=Tryz.underlying31
 a53:=Tryz.isAgg31
 z53:=Tryz.sizeOf31
 v53:=Tryz.zeroValue31
 t75:=Tryz.underlying276
 a75:=Tryz.isAgg276
 z75:=Tryz.sizeOf276
 v75:=Tryz.zeroValue276
 t76:=Tryz.underlying277
 a76:=Tryz.isAgg277
 z76:=Tryz.sizeOf277
 v76:=Tryz.zeroValue277
 t85:=Tryz.underlying341
 a85:=Tryz.isAgg341
 z85:=Tryz.sizeOf341
 v85:=Tryz.zeroValue341
 t127:=Tryz.underlying378
 a127:=Tryz.isAgg378
 z127:=Tryz.sizeOf378
 v127:=Tryz.zeroValue378
 t143:=Tryz.underlying379
 a143:=Tryz.isAgg379
 z143:=Tryz.sizeOf379
 v143:=Tryz.zeroValue379
 t145:=Tryz.underlying381
 a145:=Tryz.isAgg381
 z145:=Tryz.sizeOf381
 v145:=Tryz.zeroValue381
 t167:=Tryz.underlying340
 a167:=Tryz.isAgg340
 z167:=Tryz.sizeOf340
 v167:=Tryz.zeroValue340
 t168:=Tryz.underlying343
 a168:=Tryz.isAgg343
 z168:=Tryz.sizeOf343
 v168:=Tryz.zeroValue343
 t171:=Tryz.underlying346
 a171:=Tryz.isAgg346
 z171:=Tryz.sizeOf346
 v171:=Tryz.zeroValue346
 t173:=Tryz.underlying348
 a173:=Tryz.isAgg348
 z173:=Tryz.sizeOf348
 v173:=Tryz.zeroValue348
 t175:=Tryz.underlying365
 a175:=Tryz.isAgg365
 z175:=Tryz.sizeOf365
 v175:=Tryz.zeroValue365
 t210:=Tryz.underlying369
 a210:=Tryz.isAgg369
 z210:=Tryz.sizeOf369
 v210:=Tryz.zeroValue369
 t212:=Tryz.underlying373
 a212:=Tryz.isAgg373
 z212:=Tryz.sizeOf373
 v212:=Tryz.zeroValue373
 t213:=Tryz.underlying374
 a213:=Tryz.isAgg374
 z213:=Tryz.sizeOf374
 t232:=Tryz.underlying384
 a232:=Tryz.isAgg384
 z232:=Tryz.sizeOf384
 v232:=Tryz.zeroValue384
 t233:=Tryz.underlying385
 a233:=Tryz.isAgg385
 z233:=Tryz.sizeOf385
 v233:=Tryz.zeroValue385
 g15:=by kernel_rfl
 g16:=by kernel_rfl
 g17:=by kernel_rfl
 g18:=by kernel_rfl
 g19:=by kernel_rfl}
open Go.RowKit in
theorem Tryz.strconv_Atoi (s:ByteArray)(n:Int)(hl:s.size≤18)(h:Lib.atoi s.data.toList=some n)(w:World):
  Calls kY 189 #[.string s] w λe w'=>e=.returned (.tuple #[.int .i64 n,.nilIface])∧∃t,w'=Lib.bytesWorld w 5 t:=Any.strconv_Atoi Tryz.lays172 s n hl h w
def Tryz.lays171_ren :Go.Shelf.Ren:=⟨fun|171=>138|243=>190|246=>233|283=>265|284=>266|285=>267|286=>268|129=>219|317=>289|318=>290|319=>291|320=>292|337=>301|338=>302|n=>n,fun|3=>3|9=>9|2=>2|4=>4|171=>346|0=>0|53=>31|37=>34|5=>5|173=>348|212=>373|51=>199|20=>20|213=>374|46=>88|232=>384|233=>385|n=>n,fun|17=>5|18=>6|19=>7|n=>n⟩
theorem Tryz.lays171 :Go.Proofs.Lays.n171 kY Tryz.lays171_ren:={
 mixed:=by kernel_rfl
 f129:=Tryz.func219.trans (jj some zk)
 f171:=Tryz.func138.trans (jj some zk)
 f243:=Tryz.func190.trans (jj some zk)
 f246:=Tryz.func233.trans (jj some zk)
 f283:=Tryz.func265.trans (jj some zk)
 f284:=Tryz.func266.trans (jj some zk)
 f285:=Tryz.func267.trans (jj some zk)
 f286:=Tryz.func268.trans (jj some zk)
 f317:=Tryz.func289.trans (jj some zk)
 f318:=Tryz.func290.trans (jj some zk)
 f319:=Tryz.func291.trans (jj some zk)
 f320:=Tryz.func292.trans (jj some zk)
 f337:=Tryz.func301.trans (jj some zk)
 f338:=Tryz.func302.trans (jj some zk)
 t0:=Tryz.underlying0
 a0:=Tryz.isAgg0
 z0:=Tryz.sizeOf0
 v0:=Tryz.zeroValue0
 t2:=Tryz.underlying2
 a2:=Tryz.isAgg2
 z2:=Tryz.sizeOf2
 v2:=Tryz.zeroValue2
 t3:=Tryz.underlying3
 a3:=Tryz.isAgg3
 z3:=Tryz.sizeOf3
 v3:=Tryz.zeroValue3
 t4:=Tryz.underlying4
 a4:=Tryz.isAgg4
 z4:=Tryz.sizeOf4
 v4:=Tryz.zeroValue4
 t5:=Tryz.underlying5
 a5:=Tryz.isAgg5
 z5:=Tryz.sizeOf5
 v5:=Tryz.zeroValue5
 t9:=Tryz.underlying9
 a9:=Tryz.isAgg9
 z9:=Tryz.sizeOf9
 v9:=Tryz.zeroValue9
 t20:=Tryz.underlying20
 a20:=Tryz.isAgg20
 z20:=Tryz.sizeOf20
 v20:=Tryz.zeroValue20
 t37:=Tryz.underlying34
 a37:=Tryz.isAgg34
 z37:=Tryz.sizeOf34
 v37:=Tryz.zeroValue34
 t46:=Tryz.underlying88
 a46:=Tryz.isAgg88
 z46:=Tryz.sizeOf88
 v46:=Tryz.zeroValue88
 t51:=Tryz.underlying199
 a51:=Tryz.isAgg199
 z51:=Tryz.sizeOf199
 v51:=Tryz.zeroValue199
 t53:=Tryz.underlying31
 a53:=Tryz.isAgg31
 z53:=Tryz.sizeOf31
 v53:=Tryz.zeroValue31
 t171:=Tryz.underlying346
 a171:=Tryz.isAgg346
 z171:=Tryz.sizeOf346
 v171:=Tryz.zeroValue346
 t173:=Tryz.underlying348
 a173:=Tryz.isAgg348
 z173:=Tryz.sizeOf348
 v173:=Tryz.zeroValue348
 t212:=Tryz.underlying373
 a212:=Tryz.isAgg373
 z212:=Tryz.sizeOf373
 v212:=Tryz.zeroValue373
 t213:=Tryz.underlying374
 a213:=Tryz.isAgg374
 z213:=Tryz.sizeOf374
 t232:=Tryz.underlying384
 a232:=Tryz.isAgg384
 z232:=Tryz.sizeOf384
 v232:=Tryz.zeroValue384
 t233:=Tryz.underlying385
 a233:=Tryz.isAgg385
 z233:=Tryz.sizeOf385
 v233:=Tryz.zeroValue385
 g17:=by kernel_rfl
 g18:=by kernel_rfl
 g19:=by kernel_rfl}
open Go.RowKit Go.Sort Go.Lib in
theorem Tryz.strconv_Itoa_small (i:Nat)(hi:i<100)(w:World):
  Calls kY 138 #[.int .i64 i] w λe w'=>e=.returned (.string ⟨(Lib.decDigits i).toArray⟩)∧w'=w:=Any.strconv_Itoa_small Tryz.lays171 i hi w
def Tryz.laysC172_ren :Go.Shelf.Ren:=⟨fun|172=>189|244=>231|245=>232|247=>260|279=>261|280=>262|281=>263|282=>264|287=>286|316=>287|171=>138|205=>288|321=>299|322=>300|243=>190|246=>233|283=>265|284=>266|285=>267|286=>268|129=>219|317=>289|318=>290|319=>291|320=>292|337=>301|338=>302|n=>n,fun|9=>9|3=>3|75=>276|76=>277|4=>4|5=>5|167=>340|37=>34|0=>0|85=>341|2=>2|168=>343|53=>31|175=>365|46=>88|210=>369|127=>378|145=>381|143=>379|21=>21|171=>346|173=>348|212=>373|51=>199|20=>20|213=>374|232=>384|233=>385|80=>386|n=>n,fun|15=>3|16=>4|17=>5|18=>6|19=>7|n=>n⟩
theorem Tryz.laysC172 :Go.Proofs.LaysC.n172 kY Tryz.laysC172_ren:={
 mixed:=by kernel_rfl
 f129:=Tryz.func219.trans (jj some zk)
 f171:=Tryz.func138.trans (jj some zk)
 f172:=Tryz.func189.trans (jj some zk)
 f205:=Tryz.func288.trans (jj some zk)
 f243:=Tryz.func190.trans (jj some zk)
 f244:=Tryz.func231.trans (jj some zk)
 f245:=Tryz.func232.trans (jj some zk)
 f246:=Tryz.func233.trans (jj some zk)
 f247:=Tryz.func260.trans (jj some zk)
 f279:=Tryz.func261.trans (jj some zk)
 f280:=Tryz.func262.trans (jj some zk)
 f281:=Tryz.func263.trans (jj some zk)
 f282:=Tryz.func264.trans (jj some zk)
 f283:=Tryz.func265.trans (jj some zk)
 f284:=Tryz.func266.trans (jj some zk)
 f285:=Tryz.func267.trans (jj some zk)
 f286:=Tryz.func268.trans (jj some zk)
 f287:=Tryz.func286.trans (jj some zk)
 f316:=Tryz.func287.trans (jj some zk)
 f317:=Tryz.func289.trans (jj some zk)
 f318:=Tryz.func290.trans (jj some zk)
 f319:=Tryz.func291.trans (jj some zk)
 f320:=Tryz.func292.trans (jj some zk)
 f321:=Tryz.func299.trans (jj some zk)
 f322:=Tryz.func300.trans (jj some zk)
 f337:=Tryz.func301.trans (jj some zk)
 f338:=Tryz.func302.trans (jj some zk)
 t0:=Tryz.underlying0
 a0:=Tryz.isAgg0
 z0:=Tryz.sizeOf0
 v0:=Tryz.zeroValue0
 t2:=Tryz.underlying2
 a2:=Tryz.isAgg2
 z2:=Tryz.sizeOf2
 v2:=Tryz.zeroValue2
 t3:=Tryz.underlying3
 a3:=Tryz.isAgg3
 z3:=Tryz.sizeOf3
 v3:=Tryz.zeroValue3
 t4:=Tryz.underlying4
 a4:=Tryz.isAgg4
 z4:=Tryz.sizeOf4
 v4:=Tryz.zeroValue4
 t5:=Tryz.underlying5
 a5:=Tryz.isAgg5
 z5:=Tryz.sizeOf5
 v5:=Tryz.zeroValue5
 t9:=Tryz.underlying9
 a9:=Tryz.isAgg9
 z9:=Tryz.sizeOf9
 v9:=Tryz.zeroValue9
 t20:=Tryz.underlying20
 a20:=Tryz.isAgg20
 z20:=Tryz.sizeOf20
 v20:=Tryz.zeroValue20
 t21:=Tryz.underlying21
 a21:=Tryz.isAgg21
 z21:=Tryz.sizeOf21
 v21:=Tryz.zeroValue21
 t37:=Tryz.underlying34
 a37:=Tryz.isAgg34
 z37:=Tryz.sizeOf34
 v37:=Tryz.zeroValue34
 t46:=Tryz.underlying88
 a46:=Tryz.isAgg88
 z46:=Tryz.sizeOf88
 v46:=Tryz.zeroValue88
 t51:=Tryz.underlying199
 a51:=Tryz.isAgg199
 z51:=Tryz.sizeOf199
 v51:=Tryz.zeroValue199
 t53:=Tryz.underlying31
 a53:=Tryz.isAgg31
 z53:=Tryz.sizeOf31
 v53:=Tryz.zeroValue31
 t75:=Tryz.underlying276
 a75:=Tryz.isAgg276
 z75:=Tryz.sizeOf276
 v75:=Tryz.zeroValue276
 t76:=Tryz.underlying277
 a76:=Tryz.isAgg277
 z76:=Tryz.sizeOf277
 v76:=Tryz.zeroValue277
 t85:=Tryz.underlying341
 a85:=Tryz.isAgg341
 z85:=Tryz.sizeOf341
 v85:=Tryz.zeroValue341
 t127:=Tryz.underlying378
 a127:=Tryz.isAgg378
 z127:=Tryz.sizeOf378
 v127:=Tryz.zeroValue378
 t143:=Tryz.underlying379
 a143:=Tryz.isAgg379
 z143:=Tryz.sizeOf379
 v143:=Tryz.zeroValue379
 t145:=Tryz.underlying381
 a145:=Tryz.isAgg381
 z145:=Tryz.sizeOf381
 v145:=Tryz.zeroValue381
 t167:=Tryz.underlying340
 a167:=Tryz.isAgg340
 z167:=Tryz.sizeOf340
 v167:=Tryz.zeroValue340
 t168:=Tryz.underlying343
 a168:=Tryz.isAgg343
 z168:=Tryz.sizeOf343
 v168:=Tryz.zeroValue343
 t171:=Tryz.underlying346
 a171:=Tryz.isAgg346
 z171:=Tryz.sizeOf346
 v171:=Tryz.zeroValue346
 t173:=Tryz.underlying348
 a173:=Tryz.isAgg348
 z173:=Tryz.sizeOf348
 v173:=Tryz.zeroValue348
 t175:=Tryz.underlying365
 a175:=Tryz.isAgg365
 z175:=Tryz.sizeOf365
 v175:=Tryz.zeroValue365
 t210:=Tryz.underlying369
 a210:=Tryz.isAgg369
 z210:=Tryz.sizeOf369
 v210:=Tryz.zeroValue369
 t212:=Tryz.underlying373
 a212:=Tryz.isAgg373
 z212:=Tryz.sizeOf373
 v212:=Tryz.zeroValue373
 t213:=Tryz.underlying374
 a213:=Tryz.isAgg374
 z213:=Tryz.sizeOf374
 t232:=Tryz.underlying384
 a232:=Tryz.isAgg384
 z232:=Tryz.sizeOf384
 v232:=Tryz.zeroValue384
 t233:=Tryz.underlying385
 a233:=Tryz.isAgg385
 z233:=Tryz.sizeOf385
 v233:=Tryz.zeroValue385
 g15:=by kernel_rfl
 g16:=by kernel_rfl
 g17:=by kernel_rfl
 g18:=by kernel_rfl
 g19:=by kernel_rfl
 t80:=Tryz.underlying386
 a80:=Tryz.isAgg386
 z80:=Tryz.sizeOf386
 v80:=Tryz.zeroValue386
 i0:=by kernel_rfl
 i2:=by kernel_rfl
 i3:=by kernel_rfl
 i4:=by kernel_rfl
 i5:=by kernel_rfl
 i9:=by kernel_rfl
 i20:=by kernel_rfl
 i21:=by kernel_rfl
 i37:=by kernel_rfl
 i46:=by kernel_rfl
 i51:=by kernel_rfl
 i53:=by kernel_rfl
 i75:=by kernel_rfl
 i76:=by kernel_rfl
 i80:=by kernel_rfl
 i85:=by kernel_rfl
 i127:=by kernel_rfl
 i143:=by kernel_rfl
 i145:=by kernel_rfl
 i167:=by kernel_rfl
 i168:=by kernel_rfl
 i171:=by kernel_rfl
 i173:=by kernel_rfl
 i175:=by kernel_rfl
 i210:=by kernel_rfl
 i212:=by kernel_rfl
 i232:=by kernel_rfl
 i233:=by kernel_rfl
 m15:=by kernel_rfl
 m16:=by kernel_rfl
 m17:=by kernel_rfl
 m18:=by kernel_rfl
 m19:=by kernel_rfl
 c0:=by kernel_rfl
 c2:=by kernel_rfl
 c3:=by kernel_rfl
 c4:=by kernel_rfl
 c5:=by kernel_rfl
 c9:=by kernel_rfl
 c20:=by kernel_rfl
 c21:=by kernel_rfl
 c37:=by kernel_rfl
 c46:=by kernel_rfl
 c51:=by kernel_rfl
 c53:=by kernel_rfl
 c75:=by kernel_rfl
 c76:=by kernel_rfl
 c80:=by kernel_rfl
 c85:=by kernel_rfl
 c127:=by kernel_rfl
 c143:=by kernel_rfl
 c145:=by kernel_rfl
 c167:=by kernel_rfl
 c168:=by kernel_rfl
 c171:=by kernel_rfl
 c173:=by kernel_rfl
 c175:=by kernel_rfl
 c210:=by kernel_rfl
 c212:=by kernel_rfl
 c213:=by kernel_rfl
 c232:=by kernel_rfl
 c233:=by kernel_rfl}
open Go.RowKit in
theorem Tryz.strconv_Atoi_syntax (s:ByteArray)(hlim:s.size≤281474976710656)(h:Lib.atoiAll s.data.toList=.«syntax»)(ev:Value)(w:World)(hv:w.cell? ⟨3,0,none⟩=some ev)(hev:ev=.nilIface∨∃te pe,ev=.iface te pe):
  Calls kY 189 #[.string s] w λe w'=>∃N,e=.returned (.tuple #[.int .i64 (0),.iface 343 (.pointer (some ⟨N,0,none⟩))])∧w.heap.size≤N∧w'.heap[N]? =some (.cells #[.string ⟨#[65,116,111,105]⟩,.string s,ev] 369 (0,0))∧Below w.heap.size w w':=Any.strconv_Atoi_syntax Tryz.laysC172 s hlim h ev w hv hev
def Tryz.lays190_ren :Go.Shelf.Ren:=⟨fun|190=>125|125=>181|258=>180|128=>218|129=>219|302=>209|303=>210|304=>211|305=>212|306=>213|307=>214|308=>215|309=>216|310=>217|333=>249|329=>250|330=>251|334=>252|335=>253|336=>254|344=>284|n=>n,fun|31=>68|9=>9|3=>3|46=>88|0=>0|51=>199|53=>31|4=>4|183=>301|182=>300|131=>221|5=>5|218=>333|222=>336|228=>361|229=>362|n=>n,fun|n=>n⟩
theorem Tryz.lays190 :Go.Proofs.Lays.n190 kY Tryz.lays190_ren:={
 mixed:=by kernel_rfl
 f125:=Tryz.func181.trans (jj some zk)
 f128:=Tryz.func218.trans (jj some zk)
 f129:=Tryz.func219.trans (jj some zk)
 f190:=Tryz.func125.trans (jj some zk)
 f258:=Tryz.func180.trans (jj some zk)
 f302:=Tryz.func209.trans (jj some zk)
 f303:=Tryz.func210.trans (jj some zk)
 f304:=Tryz.func211.trans (jj some zk)
 f305:=Tryz.func212.trans (jj some zk)
 f306:=Tryz.func213.trans (jj some zk)
 f307:=Tryz.func214.trans (jj some zk)
 f308:=Tryz.func215.trans (jj some zk)
 f309:=Tryz.func216.trans (jj some zk)
 f310:=Tryz.func217.trans (jj some zk)
 f329:=Tryz.func250.trans (jj some zk)
 f330:=Tryz.func251.trans (jj some zk)
 f333:=Tryz.func249.trans (jj some zk)
 f334:=Tryz.func252.trans (jj some zk)
 f335:=Tryz.func253.trans (jj some zk)
 f336:=Tryz.func254.trans (jj some zk)
 f344:=Tryz.func284.trans (jj some zk)
 t0:=Tryz.underlying0
 a0:=Tryz.isAgg0
 z0:=Tryz.sizeOf0
 v0:=Tryz.zeroValue0
 t3:=Tryz.underlying3
 a3:=Tryz.isAgg3
 z3:=Tryz.sizeOf3
 v3:=Tryz.zeroValue3
 t4:=Tryz.underlying4
 a4:=Tryz.isAgg4
 z4:=Tryz.sizeOf4
 v4:=Tryz.zeroValue4
 t5:=Tryz.underlying5
 a5:=Tryz.isAgg5
 z5:=Tryz.sizeOf5
 v5:=Tryz.zeroValue5
 t9:=Tryz.underlying9
 a9:=Tryz.isAgg9
 z9:=Tryz.sizeOf9
 v9:=Tryz.zeroValue9
 t31:=Tryz.underlying68
 a31:=Tryz.isAgg68
 z31:=Tryz.sizeOf68
 v31:=Tryz.zeroValue68
 t46:=Tryz.underlying88
 a46:=Tryz.isAgg88
 z46:=Tryz.sizeOf88
 v46:=Tryz.zeroValue88
 t51:=Tryz.underlying199
 a51:=Tryz.isAgg199
 z51:=Tryz.sizeOf199
 v51:=Tryz.zeroValue199
 t53:=Tryz.underlying31
 a53:=Tryz.isAgg31
 z53:=Tryz.sizeOf31
 v53:=Tryz.zeroValue31
 t131:=Tryz.underlying221
 a131:=Tryz.isAgg221
 z131:=Tryz.sizeOf221
 v131:=Tryz.zeroValue221
 t182:=Tryz.underlying300
 a182:=Tryz.isAgg300
 z182:=Tryz.sizeOf300
 v182:=Tryz.zeroValue300
 t183:=Tryz.underlying301
 a183:=Tryz.isAgg301
 z183:=Tryz.sizeOf301
 v183:=Tryz.zeroValue301
 t218:=Tryz.underlying333
 a218:=Tryz.isAgg333
 z218:=Tryz.sizeOf333
 v218:=Tryz.zeroValue333
 t222:=Tryz.underlying336
 a222:=Tryz.isAgg336
 z222:=Tryz.sizeOf336
 v222:=Tryz.zeroValue336
 t228:=Tryz.underlying361
 a228:=Tryz.isAgg361
 z228:=Tryz.sizeOf361
 v228:=Tryz.zeroValue361
 t229:=Tryz.underlying362
 a229:=Tryz.isAgg362
 z229:=Tryz.sizeOf362
 v229:=Tryz.zeroValue362}
open Go.Sort Go.RowKit in
theorem Tryz.slices_Sort_string (blk off cap:Nat)(ss:List (List UInt8))(w:World)(hH:Holds encStr w blk off ss.toArray)(hblk:blk<w.heap.size)(hsz:ss.length<4611686018427387904):
  Calls kY 125 #[.slice (some ⟨blk,off,none⟩) ss.length cap] w λe w'=>
   e=.returned (.tuple #[])∧∃n os,w'=grow (putRow encStr (Sort.ahead w n) blk off (ss.mergeSort λx y=>decide (x≤y)).toArray) os:=Any.slices_Sort_string Tryz.lays190 blk off cap ss w hH hblk hsz
open Go.RowKit Go.Sort in
theorem Tryz.slices_Sort_string_none (p:OA)(cap:Nat)(w:World):
  Calls kY 125 #[.slice p 0 cap] w λe w'=>e=.returned (.tuple #[])∧w'=w:=Any.slices_Sort_string_none Tryz.lays190 p cap w
end Go.Proofs
namespace Go.Proofs.YtlnfjhiphlfkjaaGreatDoor
open Go Go.SX
attribute [local irreducible] swp qq qL qJ vZ qh St qi qk vu qH
def VT (M:OM):Prop:=∃te pe,qI M (some ⟨3,0,none⟩) 1 1 [.iface te pe]
def jGV (M:OM):Prop:=xL M∧VT M
theorem VT.mono {M M':OM}(h:VT M)(hl:qV M M'):VT M':=by
 obtain ⟨te,pe,h⟩:=h;exact ⟨te,pe,qI.mono h hl⟩
theorem jGV.mono {M M':OM}(h:jGV M)(hl:qV M M'):jGV M':=⟨h.1.mono hl,h.2.mono hl⟩
abbrev Qv (n:Nat):List UInt8:=Lib.decDigits n
theorem cN (n:Nat)(hn:n<100)(L:HL):qh kY 138 [.int .i64 n] L (λr L'=>r=str (Qv n)∧L'=L):=
 qh.lift λF w H=>(Tryz.strconv_Itoa_small n hn w).mono λe w' ⟨he,hw⟩=>⟨_,he,rfl,λk o h=>by rw[hw];exact h,by rw[hw]⟩
theorem Yf {n:Nat}(h:n<10):Qv n=[UInt8.ofNat (48+n)]:=by
 show Lib.decDigits n=_
 rw[Lib.decDigits,dif_pos h]
theorem fi {n:Nat}(h:10≤n)(h2:n<100):Qv n=[UInt8.ofNat (48+n / 10),UInt8.ofNat (48+n % 10)]:=by
 show Lib.decDigits n=_
 rw[Lib.decDigits,dif_neg zo];have:=Yf (n:=n / 10) zo;rw[show Lib.decDigits (n / 10)=_ from this];rfl
theorem Kr {n:Nat}(h:n<100):1≤(Qv n).length∧(Qv n).length≤2:=by
 by_cases h1:n<10
 ·rw[Yf h1];simp
 ·rw[fi zo h];simp
theorem Zi {n:Nat}(h:n<100):Lib.atoi (Qv n)=some (n:Int):=by
 by_cases h1:n<10
 ·rw[Yf h1]
  revert n;decide
 ·have e:∀k,k<10→∀j,j<10→Lib.atoi [UInt8.ofNat (48+k),UInt8.ofNat (48+j)]=some ((k*10+j:Nat):Int):=by decide
  rw[fi zo h,e _ zo _ zo]
  congr 2;omega
theorem jEI {a b:Nat}(ha:a<100)(hb:b<100)(h:Qv a=Qv b):a=b:=by
 have h1:=Zi ha;rw[h,Zi hb] at h1;have:=Option.some.inj h1;omega
theorem jE6 (n:Nat)(hn:n<100)(L:HL):qh kY 189 [str (Qv n)] L (λr L'=>r=.tuple #[.int .i64 n,.nilIface]∧L'=L):=
 qh.lift λF w H=>(Tryz.strconv_Atoi ⟨(Qv n).toArray⟩ n (by have:=Kr hn;simp[ByteArray.size];omega) (Zi hn) w).mono λe w' ⟨he,t,hw⟩=>⟨_,he,rfl,λk o h=>by
  subst hw;rw[Lib.bytesWorld_at_old _ _ _ _ (kj.1 h).1];exact h,by subst hw;rfl⟩
theorem jE7 (b:UInt8)(bs:List UInt8)(hb:97≤b.toNat)(hl:bs.length≤20)(M:OM)(L:HL)[hP:xq M L](hE:VT M):qh kY 189 [str (b::bs)] L (λr L'=>(∃v,r=.tuple #[.int .i64 0,v])∧L'=L):=by
 obtain ⟨te,pe,hE⟩:=hE;refine qh.lift λF w H=> ?_
 have hr:qY L (some ⟨3,0,none⟩) 1 1 [.iface te pe]:=qI.rd hE;obtain ⟨b',o',e,hr⟩:=hr.2.resolve_left zd
 cases e
 have hv:=hr w F H 0 _ rfl;have hs:Lib.atoiAll (b::bs)=.syntax:=by
  have h1:¬b.toNat=43:=by omega
  have h2:¬b.toNat=45:=by omega
  unfold Lib.atoiAll;dsimp only;rw[ja zo];have:Lib.parseMag (b::bs)=.syntax:=by
   unfold Lib.parseMag;rw[ja (by simp)]
   show (if 48≤b.toNat∧b.toNat≤57 then _ else Lib.NumEnd.syntax)=_
   rw[ja zo]
  rw[this]
 refine (Tryz.strconv_Atoi_syntax ⟨(b::bs).toArray⟩ (by simp[ByteArray.size];omega) hs (.iface te pe) w hv (.inr ⟨te,pe,rfl⟩)).mono ?_;rintro e w' ⟨N,rfl,hN,hcell,hB⟩;refine ⟨_,rfl,⟨_,rfl⟩,λk o h=> ?_,?_⟩
 ·have hlt:k<w.heap.size:=(kj.1 h).1
  rw[hB.block k hlt];exact h
 ·show (w'.os,w'.output)=(w.os,w.output)
  rw[hB.os,hB.output]
def nm (x:UInt8)(n:Nat):List UInt8:=x::Qv n
theorem za (x:UInt8)(n:Nat)(hn:n<100)(L:HL):qh kY 73 [str [x],.int .i64 n] L (λr L'=>r=str (nm x n)∧L'=L):=by
 have hl:=Kr hn;refine qg Tryz.func73 rfl rfl rfl ?_;refine Q.r ?_;refine S.cr rfl (cN n hn L) ?_;rintro _ _ ⟨rfl,rfl⟩;refine Q.r ?_;refine S.y (Y.stA rfl rfl (by simp;omega)) ?_;refine Q.r ?_;exact N.t rfl (kZ _) ⟨rfl,rfl⟩
theorem Zr (bs:List UInt8)(x:UInt8)(L:HL)(hl:bs.length≤1000):qh kY 259 [str bs,str [x]] L (λr L'=>r=.bool (decide (bs.take 1=[x]))∧L'=L):=by
 refine qg Tryz.func259 rfl rfl rfl ?_;refine Q.r ?_;refine S.y (Y.stL rfl) ?_;refine Q.r ?_;refine S.y (Y.stL rfl) ?_
 cases bs with
 |nil=>
  refine Q.r ?_;exact N.t rfl (kZ _) ⟨rfl,rfl⟩
 |cons b bs=>
  have h1:([x].length:Int)≤((b::bs).length:Int):=by simp only[jC,j7];omega
  refine Q.r ?_;refine S.y (Y.stL rfl) ?_;refine Q.r ?_;refine S.y (Y.stT (h:=1) rfl rfl rfl (by simp)) ?_;refine Q.r ?_;exact N.t rfl (kZ _) ⟨rfl,rfl⟩
theorem Zw (bs:List UInt8)(x:UInt8)(L:HL)(hl:bs.length≤1000):qh kY 230 [str bs,str [x]] L (λr L'=>r=.tuple #[str (if bs.take 1=[x] then bs.drop 1 else bs),.bool (decide (bs.take 1=[x]))]∧L'=L):=by
 refine qg Tryz.func230 rfl rfl rfl ?_;refine Q.r ?_;refine S.cr rfl (Zr bs x L hl) ?_;rintro _ _ ⟨rfl,rfl⟩
 by_cases h:bs.take 1=[x]
 ·have h1:1≤bs.length:=by
   cases bs with
   |nil=>cases h
   |cons b bs=>simp
  rw[jo h,jb h];refine Q.r ?_;refine S.y (Y.stL rfl) ?_;refine S.y (Y.stF (l:=1) rfl rfl rfl h1) ?_;refine Q.r ?_;exact N.u rfl rfl (kZ _) ⟨rfl,rfl⟩
 ·rw[jv h,ja h]
  refine Q.r ?_;exact N.u rfl rfl (kZ _) ⟨rfl,rfl⟩
theorem KS (bs:List UInt8)(x:UInt8)(L:HL)(hl:bs.length≤1000):qh kY 188 [str bs,str [x]] L (λr L'=>r=.tuple #[str (if bs.take 1=[x] then bs.drop 1 else bs),.bool (decide (bs.take 1=[x]))]∧L'=L):=by
 refine qg Tryz.func188 rfl rfl rfl ?_;refine Q.r ?_;refine S.cr rfl (Zw bs x L hl) ?_;rintro _ _ ⟨rfl,rfl⟩;refine Q.r ?_;exact N.u rfl rfl (kZ _) ⟨rfl,rfl⟩
theorem nY (x:UInt8)(n:Nat)(hn:n<100)(L:HL):qh kY 137 [str [x],str (nm x n)] L (λr L'=>r=.tuple #[.int .i64 n,.bool true]∧L'=L):=by
 have hl:=Kr hn;refine qg Tryz.func137 rfl rfl rfl ?_;refine Q.r ?_;refine S.cr rfl (KS (nm x n) x L (by unfold nm;rw[jC];omega)) ?_;rintro _ _ ⟨rfl,rfl⟩;have e:(nm x n).take 1=[x]:=rfl;rw[jb e,jo e,show (nm x n).drop 1=Qv n from rfl];refine Q.r ?_;refine S.cr rfl (jE6 n hn _) ?_;rintro _ _ ⟨rfl,rfl⟩;have hdl:((Qv n).length:Int)≤7:=by omega
 refine Q.r ?_;refine S.y (Y.eqNN rfl Tryz.underlying276) ?_;refine Q.r ?_;refine S.y (Y.stL rfl) ?_;refine Q.r ?_;refine S.cr rfl (cN n hn _) ?_;rintro _ _ ⟨rfl,rfl⟩;refine Q.r ?_;refine N.u rfl rfl (kZ _) ⟨?_,rfl⟩;rw[jo rfl]
theorem gN (x b:UInt8)(bs:List UInt8)(hb:97≤b.toNat)(hx:b≠x)(hl:bs.length≤20)(M:OM)(L:HL)[hP:xq M L](hE:VT M):qh kY 137 [str [x],str (b::bs)] L (λr L'=>r=.tuple #[.int .i64 0,.bool false]∧L'=L):=by
 refine qg Tryz.func137 rfl rfl rfl ?_;refine Q.r ?_;refine S.cr rfl (KS (b::bs) x L (by rw[jC];omega)) ?_;rintro _ _ ⟨rfl,rfl⟩;have hne:¬((b::bs).take 1=[x]):=by intro h;cases h;exact hx rfl
 rw[ja hne,jv hne];refine Q.r ?_;refine S.cr rfl (jE7 b bs hb hl M _ hE) ?_;rintro _ _ ⟨⟨v,rfl⟩,rfl⟩;refine Q.r ?_;exact N.u rfl rfl (kZ _) ⟨rfl,rfl⟩
end Go.Proofs.YtlnfjhiphlfkjaaGreatDoor
namespace Go.Proofs.YtlnfjhiphlfkjaaGreatDoor
open Go Go.SX Go.ChangeShapes Go.WideShapes Go.ChangeAt Go.RowKit
abbrev Ji :List (String×DataW Unit):=[("math/bits.deBruijn32tab",Rows.laid_math_bits_deBruijn32tab),("math/bits.deBruijn64tab",Rows.laid_math_bits_deBruijn64tab),("internal/strconv.uint64pow10",Rows.laid_internal_strconv_uint64pow10),("strconv.ErrRange",Rows.laid_strconv_ErrRange),("strconv.ErrSyntax",Rows.laid_strconv_ErrSyntax),("armillary/seal.nibble",Rows.laid_armillary_seal_nibble),("armillary/note.sorts",Rows.laid_armillary_note_sorts)]
theorem jFs :Tryz.prog.globalNamed "armillary/seal.nibble" =some 2:=by kernel_rfl
theorem jGi :(Tryz.prog.globals[2]?).map (·.type)=some 317:=by kernel_rfl
theorem jFt :Tryz.prog.globalNamed "strconv.ErrSyntax" =some 3:=by kernel_rfl
theorem jGk :(Tryz.prog.globals[3]?).map (·.type)=some 276:=by kernel_rfl
theorem jBJ : "*" ++ "errors.errorString" = "*errors.errorString" :=by decide
theorem jHn (u:TypeId)(h:Tryz.prog.typeName? 3 u=some "*errors.errorString"):u=379:=
 typeName_ptr_named (nm:= "errors.errorString") (by rw[jBJ];kernel_rfl) zk zd u (by rw[jBJ];exact h)
theorem jEh :(Rows.laid_armillary_seal_nibble:DataW Unit)=Lib.tabData .u32 (jF9.map λz:Nat=>(z:Int)):=by kernel_rfl
theorem bV {W:World}{n:String}{g:Nat}{cs:Array Value}(hg:Tryz.prog.globalNamed n=some g)(h:W.var? kY n=some cs):∃t fz,W.heap[g]? =some (.cells cs t fz):=by
 unfold World.var? at h;rw[hg] at h;simp only[Option.bind_some] at h
 cases hb:W.heap[g]? with
 |none=>rw[hb] at h;cases h
 |some o=>
  rw[hb] at h
  cases o with
  |cells l t fz=>dsimp only at h;cases h;exact ⟨t,fz,rfl⟩
  |_=>cases h
theorem dL {W:World}(h:laidMet kY Ji W):xL (zQ W):=by
 have h1:=h.tail.tail.tail.tail.tail;rw[jEh] at h1;have h2:=Lib.tabIs_of_head jFs jGi Tryz.underlying317 Tryz.underlying199 zk zk h1;obtain ⟨t,fz,h3⟩:=bV jFs h2;refine ⟨by decide,.inr ⟨2,0,_,t,fz,rfl,h3,λj v hv=> ?_⟩⟩;rw[kR]
 simpa[nibC,kE] using hv
theorem fb {W:World}(h:laidMet kY Ji W):VT (zQ W):=by
 have h1:=h.tail.tail.tail.tail;obtain ⟨a,s,h2,_⟩:=laid_sentinel h1 jFt jGk Tryz.underlying276 jHn Tryz.underlying379 Tryz.underlying381 rfl rfl Tryz.underlying9 zk zk;obtain ⟨t,fz,h3⟩:=bV jFt h2;refine ⟨379,.pointer (some a),rfl,.inr ⟨3,0,_,t,fz,rfl,h3,λj v hv=> ?_⟩⟩;rw[kR]
 simpa using hv
theorem cZ {W:World}(h:laidMet kY Ji W):zB (zQ W):=f8 h.tail.tail.tail.tail.tail.tail
theorem pg (os:Os):(World.holding kY os ⟨#[],#[],[]⟩).layFits kY Ji []=true:=by kernel_rfl
theorem dY (os:Os):(World.holding kY os ⟨#[],#[],[]⟩).layIfaces kY Ji (World.laidAll kY os Ji)=true:=by kernel_rfl
theorem jAk (os:Os)(args:Array Value):laidMet kY Ji ((World.laidAll kY os Ji).forCall (λ_ _=>0) ⟨#[],args,[]⟩).memory:=laidMet_laidAll args (pg os) (dY os)
theorem lV :(Rows.courtFullRow.inPlace==Tryz.pinned.checked.prog.inPlace 3)=true:=by kernel_rfl
theorem lU :(Rows.courtFullRow.unfollowed==Tryz.pinned.checked.prog.unfollowed 3)=true:=by kernel_rfl
theorem lT :(Rows.courtFullRow.recurses==Tryz.pinned.checked.prog.recurses 3)=true:=by kernel_rfl
theorem lS :(Rows.courtFullRow.named==Tryz.pinned.checked.prog.varsNamed 3)=true:=by kernel_rfl
theorem lR :laidOutB Tryz.pinned.checked.prog=true:=by kernel_rfl
theorem lQ :mapsRowed Tryz.pinned.checked.prog=true:=by kernel_rfl
theorem Zd :joinedFacts Tryz.pinned.checked.prog 3 Tryz.f3 (OpenSpec.ofChange Rows.courtFullSpec).bare Rows.courtFullRow=true:=by
 unfold joinedFacts;rw[lV,lU,lT,lS,lR,lQ]
 kernel_rfl
attribute [local irreducible] swp qq qL qJ vZ qh St qi qk vu qH
set_option maxRecDepth 100000 in
theorem lJ (a a2:OA)(c c2:Nat)(xs ys:List UInt8)(M:OM)(L:HL)(h1:qI M a xs.length 1 (xs.map B))(h2:qI M a2 ys.length 1 (ys.map B))(hb0:ys.length≤1000000000000):
  qh kY 148 [.slice a xs.length c,.slice a2 ys.length c2] (qp M::L) (λv L'=>v=.bool (decide (xs=ys))∧L'=qp M::L):=by
 refine qg Tryz.func148 rfl rfl rfl ?_
 by_cases hl:xs.length=ys.length
 ·have hb:xs.length≤1000000000000:=by omega
  refine Q.r ?_;refine qw (σ:=Unit) (λ_=> []) (λ_=>qp M::L) (λ_=>xs=ys) ?_ ?_
  ·refine ql (σ:=Nat) (λk=> [(0,.slice a xs.length c),(1,.slice a2 ys.length c2),(12,.int .i64 xs.length),(13,.int .i64 k)]) (λ_=>qp M::L)
    (λk=>k≤xs.length∧xs.take k=ys.take k) (λk=>xs.length - k) 0 zt (kZ _) ⟨by omega,rfl⟩ ?_
   rintro k ⟨hk,ht⟩
   by_cases hlt:k<xs.length
   ·obtain ⟨x,hx⟩:=qx hlt
    obtain ⟨y,hy⟩:=qx (l:=ys) (k:=k) zo;obtain ⟨b,o,hia,cr1⟩:=qI.cm1 (g:=B) h1 hx rfl;obtain ⟨b',o',hia2,cr2⟩:=qI.cm1 (g:=B) h2 hy rfl;have hr:=cr1.rd (L:=qp M::L);have hr':=cr2.rd (L:=qp M::L);have hrA:=cr1.rd (L:=[qp M]);have hrA':=cr2.rd (L:=[qp M]);rw[hia,hia2]
    by_cases he:x=y
    ·subst he
     refine Q.r ?_;refine Q.dgo [true] [] [] [0,1,2,3,4,5,6,7,8] ?_;refine Q.rd ?_;refine Q.r ?_;exact ⟨k+1,zt,kZ _,⟨by omega,by rw[qA hx,qA hy,ht]⟩,by omega⟩
    ·have hne:¬x.toNat=y.toNat:=λe=>he (UInt8.toNat_inj.1 e)
     refine Q.r ?_;refine Q.dgo [true] [] [] [0,1,2,3,4,5,6,7,8] ?_;refine Q.rd ?_;refine Q.r ?_;refine N.t rfl (kZ _) ⟨?_,rfl⟩;rw[jv];intro e;subst e;rw[hx] at hy;exact he (Option.some.inj hy)
   ·have hke:k=xs.length:=by omega
    subst hke;rw[jI,hl,jI] at ht;refine Q.r ?_;exact ⟨(),trivial,kZ _,ht⟩
  ·rintro _ he
   refine Q.r ?_;exact N.t rfl (kZ _) ⟨by rw[jo he],rfl⟩
 ·refine Q.r ?_
  exact N.t rfl (kZ _) ⟨by rw[jv (λe=>hl (by rw[e]))],rfl⟩
theorem nT :∀(m:Nat) (i n:Nat) (rest:List UInt8),i≤9→m*2^(7*i)<18446744073709551616→(0<i→0<m)→vW (Ki m++rest) i n=(n+m*2^(7*i),i+(Ki m).length,0):=by
 intro m
 induction m using Nat.strongRecOn with
 |ind m ih=>
  intro i n rest hi hm hp
  by_cases hl:m<128
  ·rw[QS hl]
   show vW (UInt8.ofNat m::rest) i n=_
   have e:(UInt8.ofNat m).toNat=m:=by rw[UInt8.toNat_ofNat'];omega
   have h9:¬(i=9∧1<m):=by
    rintro ⟨rfl,h1⟩;have e2:(2:Nat)^(7*9)=9223372036854775808:=by decide
    rw[e2] at hm;omega
   rw[yv,e,ja h9,jb hl,ja zo,Nat.mod_eq_of_lt hl];rfl
  ·rw[X6 hl]
   show vW (UInt8.ofNat (m % 128+128)::(Ki (m / 128)++rest)) i n=_
   have e:(UInt8.ofNat (m % 128+128)).toNat=m % 128+128:=by rw[UInt8.toNat_ofNat'];omega
   have hp2:2^(7*(i+1))=128*2^(7*i):=by rw[Nat.mul_add,Nat.pow_add,Nat.mul_comm]
   have hi9:i<9:=by
    by_cases h:i=9
    ·subst h
     have e2:(2:Nat)^(7*9)=9223372036854775808:=by decide
     rw[e2] at hm;omega
    ·omega
   have hdm:m=128*(m / 128)+m % 128:=(Nat.div_add_mod m 128).symm;have hmul:m / 128*2^(7*(i+1))+m % 128*2^(7*i)=m*2^(7*i):=by
    rw[hp2]
    conv=>rhs;rw[hdm,Nat.add_mul]
    rw[Nat.mul_left_comm,Nat.mul_assoc]
   rw[yv,e,ja zo,ja zo,ih (m / 128) zo (i+1) _ rest zo zo zo,jC];have e4:(m % 128+128) % 128=m % 128:=by omega
   rw[e4,Nat.add_assoc,Nat.add_comm (m % 128*2^(7*i)),hmul]
   congr 2
   omega
theorem Z8 {m most:Nat}(rest:List UInt8)(hm:m<18446744073709551616)(h:m≤most):qB (Ki m++rest) most=(m,(Ki m).length,0):=by
 unfold qB;rw[nT m 0 0 rest zo (by simpa using hm) zo,ja (by simp),ja (by simpa using h)]
 simp
theorem jCg {m most:Nat}(rest:List UInt8)(hm:m<18446744073709551616)(h:m≤most):Kh most (Ki m++rest) 0=(m,rest,0):=by
 unfold Kh;rw[Z8 rest hm h,ja (by simp),ja (by simp),kF]
theorem jAc {z:Int}{most:Nat}(rest:List UInt8)(h0:0≤z)(hm:z≤18446744073709551615)(h:z≤most):Kh most (numI z++rest) 0=(z.toNat,rest,0):=by
 unfold numI;rw[ja zo];exact jCg rest zo zo
end Go.Proofs.YtlnfjhiphlfkjaaGreatDoor
namespace Go.SX
open Go
def dlA (ds:List Deferred)(a:Act):Act:={a with defers:=a.defers++ds}
theorem fg (ds:List Deferred)(a:Act)(d:Option Tmp)(v:Value):dlA ds (a.put d v)=(dlA ds a).put d v:=by cases d<;>rfl
theorem Y9 (ds:List Deferred)(a:Act):(dlA ds a).eval=a.eval:=by funext x;cases x<;>rfl
theorem W6 {F:Fence}{n:Nat}{P:Program}{ops:Array Oper}{Q Q':Exit→Act→World→Prop}(ds:List Deferred)(hq:∀a w,Q' .normal a w→Q .normal (dlA ds a) w)(hn:∀e a w,Q' e a w→e=.normal):
  ∀(rest:List Oper) (a:Act) (w:World),wpListIn F n P ops Q' rest a w→wpListIn F n P ops Q rest (dlA ds a) w
 | [],a,w,h=>hq a w h
 |o::rest,a,w,h=>by
  have ih:∀a w,wpListIn F n P ops Q' rest a w→wpListIn F n P ops Q rest (dlA ds a) w:=W6 ds hq hn rest;simp only[wpListIn] at h ⊢;have e1:(dlA ds a).tmps=a.tmps:=rfl;rw[e1,Y9]
  split
  ·next hw=>
   rw[jb hw] at h;refine ⟨by rw[Y9];exact h.1,?_⟩;have h2:=h.2;rw[Y9];have put:∀d v w',wpListIn F n P ops Q' rest (a.put d v) w'→wpListIn F n P ops Q rest ((dlA ds a).put d v) w':=λd v w' q=>by rw[←fg];exact ih _ _ q
   generalize (o.semAt F.round a.eval).run P w=res at*
   cases res with
   |ok m w'=>
    cases m with
    |value v=>exact put _ _ _ h2
    |skip=>exact put _ _ _ h2
    |defer d=>
     have:=ih _ _ h2;rw[fg] at this;exact this
    |enter f args=>
     refine ⟨h2.1,CallsIn.mono h2.2 λe w'' q=> ?_⟩
     cases e with
     |returned v=>exact put _ _ _ q
     |panicked c=>exact absurd (hn _ _ _ q) (by simp)
     |outgrown=>obtain ⟨_,_,q⟩:=q;exact absurd (hn _ _ _ q) (by simp)
    |row row args=>exact ⟨h2.1,RowsIn.mono h2.2 λv w'' q=>put _ _ _ q⟩
    |round l f tmps assign body=>
     refine ⟨h2.1,RoundIn.mono h2.2 λe w'' q=> ?_⟩
     cases e with
     |returned v=>exact put _ _ _ q
     |panicked c=>exact absurd (hn _ _ _ q) (by simp)
     |outgrown=>obtain ⟨_,_,q⟩:=q;exact absurd (hn _ _ _ q) (by simp)
    |_=>exact h2
   |halt x w'=>
    cases x with
    |panic v=>exact absurd (hn _ _ _ h2) (by simp)
    |_=>exact h2
  ·next hw=>
   rw[ja hw] at h;exact ⟨h.1,by rw[←fg];exact ih _ _ h.2⟩
theorem Z2 {P:Program}{n m:Nat}{f:vL}{L F:HL}{id:Nat}{l:List Oper}{y:Code}{K:vL→HL→Prop}{Q:Exit→Act→World→Prop}{a:Act}{w:World}(ds:List Deferred)(h:zN P n none l l (qL K (λ_ _ _=>False)) f L)(ok:wA n l=true)(s:KO n a f)(t:St w (L++F))
  (hk:∀f L a w,K f L→KO n a f→St w (L++F)→y.wpIn Fence.wide m P Q {a with defers:=ds} w):(Code.seq (.region id l.toArray false) y).wpIn Fence.wide m P Q {a with defers:=ds} w:=by
 have h1:=h ok F a w s t;have hd:({a with defers:=ds}:Act)=dlA ds a:=by unfold dlA;rw[s.defers];rfl
 refine wpIn_seq ?_;rw[hd];have h2:(Code.region id l.toArray false).wpIn (WF none) 0 P (λe a w=>e.then (λa w=>y.wpIn Fence.wide m P Q a w) Q a w) (dlA ds a) w:=by
  refine wpIn_region_lit (W6 ds (λa w q=> ?_) (λe a w q=> ?_) l a w h1)
  ·obtain ⟨f,L,s,t,q⟩:=q
   have:({a with defers:=ds}:Act)=dlA ds a:=by unfold dlA;rw[s.defers];rfl
   simp only[Exit.then];rw[←this];exact hk f L a w q s t
  ·obtain ⟨f,L,s,t,q⟩:=q
   cases e<;>first|rfl|exact q.elim
 exact wpIn_wide.2 (wpIn_wide.1 h2)
end Go.SX
namespace Go.Proofs.YtlnfjhiphlfkjaaGreatDoor
open Go Go.SX
attribute [local irreducible] swp qq qL qJ vZ qh St qi qk vu qH
def jHG (M:OM)(L0:HL)(bs:List UInt8)(r:Value)(L':HL):Prop:=∃v:YB,∃M',r=v.val∧v.bs=bs∧wq M' v∧bs.length≤v.c∧qV M M'∧L'=qp M'::L0
theorem VU (a:OA)(c:Nat)(bs:List UInt8)(M:OM)(L L0:HL)[hP:xw L M L0](h:qY L a bs.length 1 (bs.map B))(hb:bs.length≤100000000000000):
  qh kY 135 [.slice a bs.length c] L (jHG M L0 bs):=by
 refine qg Tryz.func135 rfl rfl rfl ?_
 cases a with
 |none=>
  have h0:bs=[]:=by
   rcases h.2 with h0|⟨b,o,e,_⟩
   ·exact jO h0
   ·cases e
  subst h0;refine Q.r ?_;exact N.t rfl hP.ent ⟨⟨none,0,[]⟩,M,rfl,rfl,qI.nil,jz _,qV.refl _,rfl⟩
 |some ad=>
  refine Q.r ?_;(repeat (intro b1;refine Q.r ?_));refine qo (vg (sz:=1) (m:=0) rfl) ?_;refine Q.r ?_;refine S.app0 rfl rfl rfl (vG.rd h.sub (JR _)) zr zo zo (λa' c'=> ?_);refine xk a' (λM' hl hs hc=> ?_);refine Q.r ?_;exact N.t rfl (kZ _) ⟨⟨a',c',bs⟩,M',rfl,rfl,hs,hc,hl,rfl⟩
theorem WZ (a:OA)(c:Nat)(vs:List YB)(M:OM)(L L0:HL)[hP:xw L M L0](h:qY L a vs.length 1 (vs.flatMap YB.cells))(hv:∀v∈vs,rQ L v)(hc:vs.length≤c)(hn:vs.length≤1000000)(hb:(qX vs).length≤100000000000000):
  qh kY 59 [.slice a vs.length c,.slice none 0 0] L (jHG M L0 (qX vs)):=by
 refine qg Tryz.func59 rfl rfl rfl ?_
 by_cases h0:vs.length=0
 ·have e0:vs=[]:=jO h0
  subst e0;refine Q.r ?_;(repeat (intro b1;refine Q.r ?_));exact N.t rfl (qi.drop hP.ent) ⟨⟨some ⟨b1,0,none⟩,0,[]⟩,M,rfl,rfl,qI.nil,jz _,qV.refl _,rfl⟩
 ·by_cases h1:vs.length=1
  ·obtain ⟨v,rfl⟩:∃v,vs=[v]:=by
    match vs,h1 with
    | [v],_=>exact ⟨v,rfl⟩
   have hv0:=hv v (by simp);have hvl:v.bs.length≤100000000000000:=by simpa[qX] using hb
   obtain ⟨b,o,rfl,hr⟩:=qY.elem (k:=0) (x:=v) (g:=YB.cells) (λ_=>rfl) h rfl rfl;unfold rQ at hv0;refine Q.r ?_;refine qo (vj (t:=5) (sz:=1)) ?_;refine S.app0 rfl rfl rfl (vG.rd hv0.sub (JR _)) zr zo zo (λa' c'=> ?_);refine xk a' (λM' hl hs hc'=> ?_);refine Q.r ?_;exact N.t rfl (kZ _) ⟨⟨a',c',v.bs⟩,M',rfl,by simp[qX],hs,by simpa[qX] using hc',hl,rfl⟩
  ·refine Q.r ?_
   have hS:∀k,(qX (vs.take k)).length≤(qX vs).length:=λk=>by
    conv=>rhs;rw[←kJ k vs]
    unfold qX;rw[kS,jc];omega
   have hsn:∀{k:Nat} {v:YB},vs[k]? =some v→qX (vs.take (k+1))=qX (vs.take k)++v.bs:=λ{k v} hx=>by
    rw[qA hx];unfold qX;rw[kS];simp
   refine qw (σ:=Unit) (λ_=> [(0,.slice a vs.length c),(1,.slice none 0 0),(5,.int .i64 (qX vs).length)]) (λ_=>L) (λ_=>True) ?_ ?_
   ·refine ql (σ:=Nat) (λk=> [(0,.slice a vs.length c),(1,.slice none 0 0),(42,.slice a vs.length c),(43,.int .i64 vs.length),(5,.int .i64 (qX (vs.take k)).length),(44,.int .i64 k)]) (λ_=>L)
     (λk=>k≤vs.length) (λk=>vs.length - k) 0 zt (kZ _) zo ?_
    intro k hk
    by_cases hlt:k<vs.length
    ·obtain ⟨v,hx⟩:=qx hlt
     obtain ⟨b,o,hab,hr⟩:=qY.elem (g:=YB.cells) (λ_=>rfl) h hx rfl;have h2:=hS (k+1);have e2:=jj List.length (hsn hx);rw[jc] at e2;rw[hab];refine Q.r ?_;refine ⟨k+1,⟨rfl,rfl,rfl,rfl,by rw[e2];rfl,rfl,trivial⟩,kZ _,by omega,by omega⟩
    ·have hke:k=vs.length:=by omega
     subst hke;refine Q.r ?_;refine ⟨(),⟨rfl,rfl,?_,trivial⟩,kZ _,trivial⟩;rw[jI];rfl
   intro _ _;refine Q.r ?_;refine S.mnz (fn:=Tryz.f123) (ps:= #[3]) (t:=34) (m:=(qX vs).length) zk zk zk zk zk rfl zo (λbb cs hcs=> ?_);refine Q.r ?_;refine S.y (Y.sl3n (h:=(qX vs).length) (mm:=(qX vs).length) rfl rfl rfl rfl rfl (jz _) hcs) ?_;obtain ⟨v,hx⟩:=qx (show 0<vs.length by omega);obtain ⟨b,o,rfl,hr⟩:=qY.elem (g:=YB.cells) (λ_=>rfl) h hx rfl;have hs0:qX (vs.take 1)=v.bs:=by
    have:=hsn hx
    rwa [kB] at this
   have hmv:=jn hx;have hS1:=sJ hmv;have hv0:=hv v hmv;unfold rQ at hv0;refine Q.r ?_;refine S.y (Y.ia (k:=0) rfl rfl rfl zo) ?_;refine Q.r ?_;refine QQ (σ:=Unit) (λ_=> [(0,.slice (some ⟨b,o,none⟩) vs.length c),(1,.slice none 0 0),(8,.slice (some ⟨bb,0,none⟩) (qX vs).length (qX vs).length),(9,.int .i64 v.bs.length)]) (λ_=>pt bb (cl (v.bs.map B++cs.drop v.bs.length) 5)::L) (λ_=>True) ?_ ?_
   ·obtain ⟨va,vc,vb⟩:=v
    dsimp only at hv0 hS1 hs0 ⊢
    rcases hv0.2 with hz|⟨b2,o2,hva,hvr⟩
    ·have hvn:vb=[]:=jO hz
     subst hvn;refine S.cpy0 rfl rfl ?_;refine Q.r ?_;exact ⟨(),zt,by exact eG,trivial⟩
    ·subst hva
     refine S.cpy (l':=vb.map B++cs.drop vb.length) rfl rfl hvr.sub (by rw[jf,jX];exact (Nat.min_eq_left hS1).symm) (by rw[jf];omega) (JR _) (by have:=rN [] cs (vb.map B);simpa using this) ?_;rw[show min vb.length (qX vs).length=vb.length by omega];refine Q.r ?_;exact ⟨(),zt,by exact eG,trivial⟩
   intro _ _;refine Q.r ?_;refine S.y (Y.slF (l:=1) rfl rfl rfl zo) ?_;rw[ja (show ¬c=1 by omega)];refine Q.r ?_;have htl:qY L (some ⟨b,o+1*1,none⟩) (vs.length - 1) 1 ((vs.drop 1).flatMap YB.cells):=by
    have:=qY.from2 (l:=1) h zo hc;rw[ja (show ¬c=1 by omega),bY (sz:=1) (λ_=>rfl)] at this;exact this
   refine qw (σ:=Unit) (λ_=> [(8,.slice (some ⟨bb,0,none⟩) (qX vs).length (qX vs).length)]) (λ_=>pt bb (cl ((qX vs).map B++cs.drop (qX vs).length) 5)::L) (λ_=>True) ?_ ?_
   ·refine ql (σ:=Nat) (λk=> [(1,.slice none 0 0),(8,.slice (some ⟨bb,0,none⟩) (qX vs).length (qX vs).length),(70,.slice (some ⟨b,o+1*1,none⟩) (vs.length - 1) (c - 1)),(71,.int .i64 ((vs.length - 1:Nat):Int)),(9,.int .i64 (qX (vs.take (k+1))).length),(72,.int .i64 k)])
     (λk=>pt bb (cl ((qX (vs.take (k+1))).map B++cs.drop (qX (vs.take (k+1))).length) 5)::L)
     (λk=>k≤vs.length - 1) (λk=>vs.length - 1 - k) 0 ⟨rfl,rfl,rfl,rfl,by rw[hs0];rfl,rfl,trivial⟩ (by rw[hs0];exact kZ _) zo ?_
    intro k hk;have hSk:=hS (k+1)
    by_cases hlt:k<vs.length - 1
    ·obtain ⟨u,hu⟩:=qx (show k+1<vs.length by omega)
     have hmu:=jn hu;have hsu:=hsn hu;have hSu:=hS (k+1+1);have hu0:=hv u hmu;unfold rQ at hu0;generalize hpre:qX (vs.take (k+1))=pre at*;have htl2:qY (pt bb (cl (pre.map B++cs.drop pre.length) 5)::L) (some ⟨b,o+1*1,none⟩) (vs.length - 1) 1 ((vs.drop 1).flatMap YB.cells):=htl.sub;have hu2:(vs.drop 1)[k]? =some u:=by rw[List.getElem?_drop,Nat.add_comm];exact hu
     obtain ⟨b3,o3,he,hr3⟩:=qY.elem (g:=YB.cells) (λ_=>rfl) htl2 hu2 (by simp)
     cases he
     rw[hsu,jc] at hSu;refine Q.r ?_;refine S.y (Y.slF (l:=pre.length) rfl rfl rfl zo) ?_;refine Q.r ?_;refine S.cpy0 rfl rfl ?_;refine Q.r ?_;refine S.y (Y.slF (l:=pre.length) rfl rfl (Int.add_zero _) zo) ?_;refine Q.r ?_;obtain ⟨ua,uc,ub⟩:=u;dsimp only at hu0 hSu hsu ⊢
     by_cases hz:ub.length=0
     ·have hvn:ub=[]:=jO hz
      subst hvn;refine S.cpy0 rfl rfl ?_;refine Q.r ?_;rw[jG] at hsu;refine ⟨k+1,⟨rfl,rfl,rfl,rfl,?_,rfl,trivial⟩,by rw[hsu];exact kZ _,by omega,by omega⟩;rw[hsu];exact jj some (jj (Value.int .i64) (by simp))
     ·obtain ⟨b2,o2,hva,hvr⟩:=hu0.2.resolve_left hz
      subst hva;rw[ja (show ¬(qX vs).length=pre.length by omega)];refine S.cpy (l':=(pre++ub).map B++cs.drop (pre++ub).length) rfl rfl hvr.sub (by rw[jf,jX];exact (Nat.min_eq_left zo).symm) (by rw[jc,jf,jf,jE];omega) (JR _) ?_ ?_
      ·have:=rN (pre.map B) (cs.drop pre.length) (ub.map B)
       rw[jf,jf,List.drop_drop] at this;rw[jq,jc,kR,jX];exact this
      rw[show min ub.length ((qX vs).length - pre.length)=ub.length by omega];refine Q.r ?_;refine ⟨k+1,⟨rfl,rfl,rfl,rfl,?_,rfl,trivial⟩,by rw[hsu];exact kZ _,by omega,by omega⟩;rw[hsu,jc];exact jj some (jj (Value.int .i64) (by simp))
    ·have hke:k=vs.length - 1:=by omega
     subst hke;rw[show vs.length - 1+1=vs.length by omega,jI];refine Q.r ?_;exact ⟨(),zt,kZ _,trivial⟩
   ·intro _ _
    refine jBE bb (t:=5) (l:=(qX vs).map B++cs.drop (qX vs).length) (m:=(qX vs).length) (cs:=(qX vs).map B) (by rw[jc,jf];omega) (List.take_left' (by rw[jf])) (λM' hl hs=> ?_);refine Q.r ?_;exact N.t rfl (kZ _) ⟨⟨some ⟨bb,0,none⟩,(qX vs).length,qX vs⟩,M',rfl,rfl,hs,jz _,hl,rfl⟩
end Go.Proofs.YtlnfjhiphlfkjaaGreatDoor
namespace Go.SX
open Go
def zc :Nat→Nat→List UInt8
 |0,_=> []
 |k+1,n=>UInt8.ofNat (n % 256)::zc k (n / 256)
def yL :List UInt8→Nat
 | []=>0
 |b::bs=>yL bs*256+b.toNat
theorem zw :∀k n,(zc k n).length=k
 |0,_=>rfl
 |k+1,n=>by simp[zc,zw k]
theorem YP :∀k n,n<256^k→yL (zc k n)=n
 |0,n,h=>by simp[zc,yL] at*;omega
 |k+1,n,h=>by
  have h2:n / 256<256^k:=by rw[Nat.div_lt_iff_lt_mul zd];rwa [Nat.pow_succ] at h
  show yL (zc k (n / 256))*256+(UInt8.ofNat (n % 256)).toNat=n
  rw[YP k _ h2,UInt8.toNat_ofNat'];omega
theorem dI :∀bs:List UInt8,yL bs<256^bs.length
 | []=>by simp[yL]
 |b::bs=>by
  have h:=dI bs;have hb:=b.toNat_lt;rw[jC,Nat.pow_succ]
  show yL bs*256+b.toNat<_
  omega
theorem jIE (n:Nat):zc 4 n=[UInt8.ofNat (n % 256),UInt8.ofNat (n / 2^8 % 256),UInt8.ofNat (n / 2^16 % 256),UInt8.ofNat (n / 2^24 % 256)]:=by
 show [UInt8.ofNat (n % 256),UInt8.ofNat (n / 256 % 256),UInt8.ofNat (n / 256 / 256 % 256),UInt8.ofNat (n / 256 / 256 / 256 % 256)]=_
 rw[Nat.div_div_eq_div_mul,Nat.div_div_eq_div_mul]
theorem Y.cv8 {P:Program}{n:Nat}{ops:List Oper}{f:vL}{A:HL}{d:Tmp}{ty:TypeId}{pos:String}{af:Array Edge}{x:Operand}{s t:TypeId}{k:IntKind}{a:Nat}[h0:zi P s][h2:Jp P t .u8](hx:ev f x=some (.int k (a:Int))):qk P n ops ⟨some d,.convert s t x,ty,pos,af,none⟩ f A (B (UInt8.ofNat (a % 256))):=by
 have h:=Y.cvi (P:=P) (n:=n) (ops:=ops) (A:=A) (d:=d) (ty:=ty) (pos:=pos) (af:=af) (t:=s) (t':=t) (k':=.u8) hx;have e:IntKind.u8.wrap (a:Int)=((UInt8.ofNat (a % 256)).toNat:Int):=by
  rw[UInt8.toNat_ofNat']
  simp[IntKind.wrap,IntKind.bits,IntKind.signed]
 rw[e] at h;exact h
theorem cR {n:Nat}(h:n<9223372036854775808):IntKind.i64.wrap (n:Int)=(n:Int):=by
 simp[IntKind.wrap,IntKind.bits,IntKind.signed];omega
section
variable {P : Program} {n : Nat} {ops : List Oper} {f : vL} {A : HL} {d : Tmp} {ty : TypeId} {pos : String} {af : Array Edge} {x y : Operand} {t t' : TypeId} {k k' : IntKind} {a b : Nat}
theorem Y.cv64 [h0:zi P t][h2:Jp P t' .i64](hx:ev f x=some (.int k (a:Int)))(ha:a<9223372036854775808):qk P n ops ⟨some d,.convert t t' x,ty,pos,af,none⟩ f A (.int .i64 (a:Int)):=cR ha▸Y.cvi hx
theorem Y.shl64 (hx:ev f x=some (.int .i64 (a:Int)))(hy:ev f y=some (.int k' (b:Int)))(hb:b≤IntKind.i64.bits)(h:a*2^b<9223372036854775808):qk P n ops ⟨some d,.binOp .shl t x y t',ty,pos,af,none⟩ f A (.int .i64 ((a*2^b:Nat):Int)):=cR h▸Y.shl hx hy hb
theorem Y.shl32 (hx:ev f x=some (.int .u32 (a:Int)))(hy:ev f y=some (.int k' (b:Int)))(hb:b≤IntKind.u32.bits)(h:a*2^b<4294967296):qk P n ops ⟨some d,.binOp .shl t x y t',ty,pos,af,none⟩ f A (.int .u32 ((a*2^b:Nat):Int)):=Yk h▸Y.shl hx hy hb
theorem jB5 {m:Nat}(ha:a<2^m):a|||b*2^m=a+b*2^m:=by rw[Nat.or_comm,Nat.mul_comm,←Nat.two_pow_add_eq_or_of_lt ha,Nat.add_comm]
theorem Y.or64 {m:Nat}(hx:ev f x=some (.int .i64 (a:Int)))(hy:ev f y=some (.int .i64 ((b*2^m:Nat):Int)))(ha:a<2^m)(h:a+b*2^m<9223372036854775808):qk P n ops ⟨some d,.binOp .or t x y t',ty,pos,af,none⟩ f A (.int .i64 ((a+b*2^m:Nat):Int)):=by
 have h1:=Y.orr (P:=P) (n:=n) (ops:=ops) (A:=A) (d:=d) (ty:=ty) (pos:=pos) (af:=af) (t:=t) (t':=t') hx hy;have e:∀z:Nat,z<9223372036854775808→(BitVec.ofInt IntKind.i64.bits (z:Int)).toNat=z:=λz hz=>by
  show (BitVec.ofInt 64 (z:Int)).toNat=z
  simp;omega
 rw[BitVec.toNat_or,e _ zo,e _ zo,jB5 ha,cR h] at h1;exact h1
theorem Y.or32a {m:Nat}(hx:ev f x=some (.int .u32 (a:Int)))(hy:ev f y=some (.int .u32 ((b*2^m:Nat):Int)))(ha:a<2^m)(h:a+b*2^m<4294967296):qk P n ops ⟨some d,.binOp .or t x y t',ty,pos,af,none⟩ f A (.int .u32 ((a+b*2^m:Nat):Int)):=jB5 ha▸Y.or32 hx hy zo zo
end
theorem qY.row1y {L:HL}{b n:Nat}{l:List Value}{t:TypeId}[h:zK b L (cl l t)](hl:l.length=n):qY L (some ⟨b,0,none⟩) n 1 l:=⟨by rw[hl,jX],.inr ⟨b,0,rfl,vi.row⟩⟩
theorem qI.from2 {M:OM}{b o m c l sz:Nat}{cs:List Value}(h:qI M (some ⟨b,o,none⟩) m sz cs)(h1:l≤m)(h2:m≤c):qI M (some ⟨b,if c=l then o else o+l*sz,none⟩) (m - l) sz (cs.drop (l*sz)):=by
 refine ⟨by rw[jE,h.1,Nat.sub_mul],?_⟩
 rcases h.2 with h3|⟨b',o',l',t,fz,e,e1,e2⟩
 ·exact .inl zo
 ·by_cases hc:c=l
  ·exact .inl zo
  ·cases e
   rw[ja hc];refine .inr ⟨b,o+l*sz,l',t,fz,rfl,e1,λj v hj=> ?_⟩;rw[List.getElem?_drop] at hj;have:=e2 _ v hj
   rwa [←Nat.add_assoc] at this
theorem wq.cut {M:OM}{b o c:Nat}{bs:List UInt8}(h:qI M (some ⟨b,o,none⟩) bs.length 1 (bs.map B))(hc:bs.length≤c)(l k:Nat)(hk:l+k≤bs.length):
  wq M ⟨some ⟨b,if c=l then o else o+l*1,none⟩,c - l,(bs.drop l).take k⟩:=by
 have h1:=qI.take (qI.from2 (l:=l) h zo hc) (k:=k) zo;unfold wq;dsimp only;have e:((bs.drop l).take k).length=k:=by rw[jP,jE];omega
 rw[e,List.map_take,List.map_drop];simp only[jX] at h1 ⊢;exact h1
theorem wq.tail {M:OM}{b o c:Nat}{bs:List UInt8}(h:qI M (some ⟨b,o,none⟩) bs.length 1 (bs.map B))(hc:bs.length≤c)(l:Nat)(hk:l≤bs.length):
  wq M ⟨some ⟨b,if c=l then o else o+l*1,none⟩,c - l,bs.drop l⟩:=by
 have h1:=qI.from2 (l:=l) h zo hc;unfold wq;dsimp only;rw[jE,List.map_drop];simp only[jX] at h1 ⊢;exact h1
def KZ (p:List UInt8):List UInt8:=zc 2 p.length++p
def frB (p:List UInt8):List UInt8:=zc 4 (Ks (KZ p))++KZ p
theorem yN (p:List UInt8):(frB p).length=6+p.length:=by
 unfold frB KZ;rw[jc,jc,zw,zw];omega
def Ws (p:List UInt8):Nat:=yL ((p.drop 4).take 2)
def JD (p:List UInt8):Int:=if p.length<6 then 2 else if 4096<Ws p then 3 else if p.length - 6<Ws p then 2 else if Ks ((p.drop 4).take (2+Ws p))≠yL (p.take 4) then 5 else 0
def V8 (p:List UInt8):List UInt8:=(p.drop 6).take (Ws p)
def ZM (p:List UInt8):List UInt8:=p.drop (6+Ws p)
theorem YN {p:List UInt8}(h:JD p=0):6≤p.length∧Ws p≤4096∧6+Ws p≤p.length∧Ks ((p.drop 4).take (2+Ws p))=yL (p.take 4):=by
 unfold JD at h
 split at h
 ·cases h
 split at h
 ·cases h
 split at h
 ·cases h
 split at h
 ·cases h
 ·rename_i h1 h2 h3 h4
  exact ⟨by omega,by omega,by omega,Decidable.not_not.1 h4⟩
theorem dG {p:List UInt8}(h:JD p=0):(V8 p).length=Ws p:=by
 have:=YN h;unfold V8;rw[jP,jE];omega
theorem gM (p r:List UInt8)(hp:p.length≤4096):JD (frB p++r)=0∧V8 (frB p++r)=p∧ZM (frB p++r)=r∧Ws (frB p++r)=p.length:=by
 have l4:=zw 4 (Ks (KZ p));have l2:=zw 2 p.length;have e4:(frB p++r).drop 4=zc 2 p.length++(p++r):=by
  unfold frB;rw[ju,List.drop_left' l4];unfold KZ;rw[ju]
 have eN:Ws (frB p++r)=p.length:=by
  unfold Ws;rw[e4,List.take_left' l2,YP 2 _ zo]
 have e6:(frB p++r).drop 6=p++r:=by
  rw[show 6=4+2 from rfl,←List.drop_drop,e4,List.drop_left' l2]
 have hl:(frB p++r).length=6+p.length+r.length:=by rw[jc,yN]
 refine ⟨?_,?_,?_,eN⟩
 ·unfold JD
  rw[ja zo,eN,ja zo,ja zo,ja];rw[Decidable.not_not,e4,←ju,List.take_left' (by rw[jc,l2])];have:(frB p++r).take 4=zc 4 (Ks (KZ p)):=by
   unfold frB;rw[ju,List.take_left' l4]
  rw[this,YP 4 _ (by have:=Yg (KZ p);omega)];rfl
 ·unfold V8
  rw[e6,eN,List.take_left]
 ·unfold ZM
  rw[eN,←List.drop_drop,e6,kF]
end Go.SX
namespace Go.Proofs.YtlnfjhiphlfkjaaGreatDoor
open Go Go.SX
attribute [local irreducible] swp qq qL qJ vZ qh St qi qk vu qH
def jII (M:OM)(L0:HL)(bs:List UInt8)(r:Value)(L':HL):Prop:=∃v:YB,∃M',r=.tuple #[v.val,.int .i64 (if 4096<bs.length then 3 else 0)]∧v.bs=(if 4096<bs.length then [] else frB bs)∧wq M' v∧v.bs.length≤v.c∧qV M M'∧L'=qp M'::L0
theorem Jq (a:OA)(c:Nat)(vs:List YB)(M:OM)(L L0:HL)[hP:xw L M L0](h:qY L a vs.length 1 (vs.flatMap YB.cells))(hv:∀v∈vs,rQ L v)(hT:xL M)(hc:vs.length≤c)(hn:vs.length≤1000000)(hb:(qX vs).length≤100000000000000):
  qh kY 141 [.slice a vs.length c] L (jII M L0 (qX vs)):=by
 refine qg Tryz.func141 rfl rfl rfl ?_;refine Q.r ?_;refine S.cr rfl (WZ a c vs M L L0 h hv hc hn hb) ?_;rintro _ _ ⟨v,M1,rfl,hj,hjo,hjc,hl1,rfl⟩;rw[←hj] at*;have hT1:=hT.mono hl1
 by_cases hbig:4096<v.bs.length
 ·refine Q.r ?_
  refine N.u rfl rfl (kZ _) ⟨⟨none,0,[]⟩,M1,by rw[jb hbig];rfl,by rw[jb hbig],qI.nil,jz _,hl1,rfl⟩
 ·refine Q.r ?_
  refine S.y (Y.cv8 rfl) ?_;refine Q.r ?_;refine S.y (Y.shr rfl rfl zd) ?_;refine S.y (Y.cv8 rfl) ?_;refine Q.r ?_;(repeat (intro b1;refine Q.r ?_));rename_i b2
  let w1:YB:=⟨some ⟨b2,0,none⟩,2,zc 2 v.bs.length⟩
  refine S.cr rfl (mw (some ⟨b1,0,none⟩) 2 [w1,v] _ (qY.row1y rfl) ?_ (xL.rd hT1) (by simp) ?_) ?_
  ·intro u hu
   rcases j9.1 hu with rfl|hu
   ·exact qY.row1y rfl
   ·rw[ji.1 hu];exact hjo.rd
  ·simp[qX,w1,zw];omega
  rintro _ _ ⟨rfl,rfl⟩;rw[show qX [w1,v]=KZ v.bs from by simp[qX,w1,KZ]];have hcc:frB v.bs=zc 4 (Ks (KZ v.bs))++(zc 2 v.bs.length++v.bs):=rfl;generalize Ks (KZ v.bs)=cc at hcc ⊢;refine Q.r ?_;refine S.y (Y.cv8 rfl) ?_;refine Q.r ?_;refine S.y (Y.shr rfl rfl zd) ?_;refine S.y (Y.cv8 rfl) ?_;refine Q.r ?_;refine S.y (Y.shr rfl rfl zd) ?_;refine S.y (Y.cv8 rfl) ?_;refine Q.r ?_;refine S.y (Y.shr rfl rfl zd) ?_;refine S.y (Y.cv8 rfl) ?_;refine Q.r ?_;(repeat (intro b1;refine Q.r ?_));rename_i b4 
  let w2:YB:=⟨some ⟨b4,0,none⟩,4,zc 4 cc⟩
  have hw:qX [w2,w1,v]=frB v.bs:=by rw[hcc];simp[qX,w1,w2]
  refine S.cr rfl (WZ (some ⟨b1,0,none⟩) 3 [w2,w1,v] M1 _ _ (qY.row1y rfl) ?_ (jz _) (by simp) (by rw[hw,yN];omega)) ?_
  ·intro u hu
   rcases j9.1 hu with rfl|hu
   ·show qY _ (some ⟨b4,0,none⟩) 4 1 ((zc 4 cc).map B)
    rw[jIE];exact qY.row1y rfl
   rcases j9.1 hu with rfl|hu
   ·exact qY.row1y rfl
   ·rw[ji.1 hu];exact hjo.rd
  rintro _ _ ⟨u,M2,rfl,hu,huo,huc,hl2,rfl⟩;refine Q.r ?_;refine N.u rfl rfl ?_ ⟨u,M2,by rw[ja hbig],by rw[ja hbig,hu,hw],huo,by rw[hu];exact huc,hl1.trans hl2,rfl⟩;exact eG
def jEd (M:OM)(L0:HL)(p:List UInt8)(r:Value)(L':HL):Prop:=∃v w:YB,∃M',r=.tuple #[v.val,w.val,.int .i64 (JD p)]∧v.bs=(if JD p=0 then V8 p else [])∧w.bs=(if JD p=0 then ZM p else [])∧wq M' v∧wq M' w∧v.bs.length≤v.c∧w.bs.length≤w.c∧qV M M'∧L'=qp M'::L0
theorem VP (a:OA)(c:Nat)(bs:List UInt8)(M:OM)(L0:HL)(h:qI M a bs.length 1 (bs.map B))(hT:xL M)(hc:bs.length≤c)(hb:bs.length≤100000000000):
  qh kY 140 [.slice a bs.length c] (qp M::L0) (jEd M L0 bs):=by
 refine qg Tryz.func140 rfl rfl rfl ?_
 by_cases h6:bs.length<6
 ·refine Q.r ?_
  have e:JD bs=2:=by unfold JD;rw[jb h6]
  exact N.r3 (RV.tmp rfl (RV.tmp rfl (RV.tmp rfl RV.nil))) (kZ _) ⟨⟨none,0,[]⟩,⟨none,0,[]⟩,M,by rw[e];rfl,by rw[e];rfl,by rw[e];rfl,qI.nil,qI.nil,jz _,jz _,qV.refl _,rfl⟩
 have hrd:qY (qp M::L0) a bs.length 1 (bs.map B):=qI.rd h;obtain ⟨b,o,rfl,hr⟩:=hrd.2.resolve_left zo;obtain ⟨x0,x1,x2,x3,x4,x5,tl,rfl⟩:∃x0 x1 x2 x3 x4 x5 tl,bs=x0::x1::x2::x3::x4::x5::tl:=by
  match bs,h6 with
  |x0::x1::x2::x3::x4::x5::tl,_=>exact ⟨x0,x1,x2,x3,x4,x5,tl,rfl⟩
  | [],h=>exact absurd (by simp) h
  | [_],h=>exact absurd (by simp) h
  | [_,_],h=>exact absurd (by simp) h
  | [_,_,_],h=>exact absurd (by simp) h
  | [_,_,_,_],h=>exact absurd (by simp) h
  | [_,_,_,_,_],h=>exact absurd (by simp) h
 have hrA:vi (qp M::[]) b o ((x0::x1::x2::x3::x4::x5::tl).map B):=by
  have h2:qY (qp M::[]) (some ⟨b,o,none⟩) _ 1 _:=qI.rd h
  rcases h2.2 with h3|⟨b',o',e,r⟩
  ·cases h3
  ·cases e;exact r
 have hx0:=x0.toNat_lt;have hx1:=x1.toNat_lt;have hx2:=x2.toNat_lt;have hx3:=x3.toNat_lt;have hx4:=x4.toNat_lt;have hx5:=x5.toNat_lt;refine Q.r ?_;refine Q.dgo [true] [] [] [0,1,2,3,4,5,6,7,8,9,10] ?_
 repeat (first|refine Q.dyn rfl rfl rfl ?_|refine Q.dyl rfl rfl rfl ?_|refine D.y rfl rfl rfl zk (by first|exact (Y.ldRj rfl (by first|assumption|exact vi.sub (by assumption)) rfl)|exact Y.guard rfl (Y.ldRj rfl (by first|assumption|exact vi.sub (by assumption)) rfl)) ?_|refine D.endA ?_|refine Q.dy rfl rfl rfl ?_|refine Q.dp rfl rfl rfl ?_|refine D.end_ ?_|refine Q.endH ?_|(refine D.e rfl rfl rfl ?_;(first|refine S.gskip1 rfl ?_|refine S.gskip rfl ?_|refine S.y (Y.gskipU rfl) ?_);refine qQ ?_;refine N.tn ?_)|refine Q.dT rfl rfl rfl ?_|refine Q.dF rfl rfl rfl ?_|(refine D.e rfl rfl rfl ?_;(first|(refine GQ.a ?_;refine Q.al (λb1=> ?_))|(refine GQ.s ?_;refine Q.st ?_));refine qQ ?_;refine N.tn ?_))
 refine D.yp rfl rfl rfl (Y.cv64 (a:=x4.toNat) rfl zo) ?_
 repeat (first|refine Q.dyn rfl rfl rfl ?_|refine Q.dyl rfl rfl rfl ?_|refine D.y rfl rfl rfl zk (by first|exact (Y.ldRj rfl (by first|assumption|exact vi.sub (by assumption)) rfl)|exact Y.guard rfl (Y.ldRj rfl (by first|assumption|exact vi.sub (by assumption)) rfl)) ?_|refine D.endA ?_|refine Q.dy rfl rfl rfl ?_|refine Q.dp rfl rfl rfl ?_|refine D.end_ ?_|refine Q.endH ?_|(refine D.e rfl rfl rfl ?_;(first|refine S.gskip1 rfl ?_|refine S.gskip rfl ?_|refine S.y (Y.gskipU rfl) ?_);refine qQ ?_;refine N.tn ?_)|refine Q.dT rfl rfl rfl ?_|refine Q.dF rfl rfl rfl ?_|(refine D.e rfl rfl rfl ?_;(first|(refine GQ.a ?_;refine Q.al (λb1=> ?_))|(refine GQ.s ?_;refine Q.st ?_));refine qQ ?_;refine N.tn ?_))
 refine D.yp rfl rfl rfl (Y.cv64 (a:=x5.toNat) rfl zo) ?_;refine D.yp rfl rfl rfl (Y.shl64 (a:=x5.toNat) (b:=8) rfl rfl zd zo) ?_;refine D.yp rfl rfl rfl (Y.or64 (a:=x4.toNat) (b:=x5.toNat) (m:=8) rfl rfl zo zo) ?_
 repeat (first|refine Q.dyn rfl rfl rfl ?_|refine Q.dyl rfl rfl rfl ?_|refine D.y rfl rfl rfl zk (by first|exact (Y.ldRj rfl (by first|assumption|exact vi.sub (by assumption)) rfl)|exact Y.guard rfl (Y.ldRj rfl (by first|assumption|exact vi.sub (by assumption)) rfl)) ?_|refine D.endA ?_|refine Q.dy rfl rfl rfl ?_|refine Q.dp rfl rfl rfl ?_|refine D.end_ ?_|refine Q.endH ?_|(refine D.e rfl rfl rfl ?_;(first|refine S.gskip1 rfl ?_|refine S.gskip rfl ?_|refine S.y (Y.gskipU rfl) ?_);refine qQ ?_;refine N.tn ?_)|refine Q.dT rfl rfl rfl ?_|refine Q.dF rfl rfl rfl ?_|(refine D.e rfl rfl rfl ?_;(first|(refine GQ.a ?_;refine Q.al (λb1=> ?_))|(refine GQ.s ?_;refine Q.st ?_));refine qQ ?_;refine N.tn ?_))
 have hnn:x4.toNat+x5.toNat*2^8=Ws (x0::x1::x2::x3::x4::x5::tl):=by
  show _=(0*256+x5.toNat)*256+x4.toNat
  omega
 have hn8:x4.toNat+x5.toNat*2^8<65536:=by omega
 rw[hnn] at hn8 ⊢;have hw4:yL ((x0::x1::x2::x3::x4::x5::tl).take 4)=x0.toNat+x1.toNat*2^8+x2.toNat*2^16+x3.toNat*2^24:=by
  show (((0*256+x3.toNat)*256+x2.toNat)*256+x1.toNat)*256+x0.toNat=_
  omega
 have hE:JD (x0::x1::x2::x3::x4::x5::tl)=if 4096<Ws (x0::x1::x2::x3::x4::x5::tl) then 3 else if (x0::x1::x2::x3::x4::x5::tl).length - 6<Ws (x0::x1::x2::x3::x4::x5::tl) then 2 else if Ks (((x0::x1::x2::x3::x4::x5::tl).drop 4).take (2+Ws (x0::x1::x2::x3::x4::x5::tl)))≠yL ((x0::x1::x2::x3::x4::x5::tl).take 4) then 5 else 0:=by
  conv=>lhs;unfold JD
  rw[ja h6]
 have hnB:V8 (x0::x1::x2::x3::x4::x5::tl)=((x0::x1::x2::x3::x4::x5::tl).drop 6).take (Ws (x0::x1::x2::x3::x4::x5::tl)):=rfl;have hnR:ZM (x0::x1::x2::x3::x4::x5::tl)=(x0::x1::x2::x3::x4::x5::tl).drop (6+Ws (x0::x1::x2::x3::x4::x5::tl)):=rfl;generalize Ws (x0::x1::x2::x3::x4::x5::tl)=nn at*;have hno:∀e:Int,e≠0→JD (x0::x1::x2::x3::x4::x5::tl)=e→jEd M L0 (x0::x1::x2::x3::x4::x5::tl) (.tuple #[.slice none 0 0,.slice none 0 0,.int .i64 e]) (qp M::L0):=λe he hq=>
  ⟨⟨none,0,[]⟩,⟨none,0,[]⟩,M,by rw[hq];rfl,by rw[hq,ja he],by rw[hq,ja he],qI.nil,qI.nil,jz _,jz _,qV.refl _,rfl⟩
 by_cases h4:4096<nn
 ·rw[jb h4] at hE
  refine Q.r ?_;exact N.r3 (RV.tmp rfl (RV.tmp rfl (RV.tmp rfl RV.nil))) (kZ _) (hno 3 zd hE)
 rw[ja h4] at hE
 by_cases h5:(x0::x1::x2::x3::x4::x5::tl).length - 6<nn
 ·rw[jb h5] at hE
  refine Q.r ?_;exact N.r3 (RV.tmp rfl (RV.tmp rfl (RV.tmp rfl RV.nil))) (kZ _) (hno 2 zd hE)
 rw[ja h5] at hE;refine Q.r ?_;refine Q.dgo [true] [] [] [0,1,2,3,4,5,6,7,8,9,10,11,12,13,14,15,16,17,18,19,20,21,22] ?_
 repeat (first|refine Q.dyn rfl rfl rfl ?_|refine Q.dyl rfl rfl rfl ?_|refine D.y rfl rfl rfl zk (by first|exact (Y.ldRj rfl (by first|assumption|exact vi.sub (by assumption)) rfl)|exact Y.guard rfl (Y.ldRj rfl (by first|assumption|exact vi.sub (by assumption)) rfl)) ?_|refine D.endA ?_|refine Q.dy rfl rfl rfl ?_|refine Q.dp rfl rfl rfl ?_|refine D.end_ ?_|refine Q.endH ?_|(refine D.e rfl rfl rfl ?_;(first|refine S.gskip1 rfl ?_|refine S.gskip rfl ?_|refine S.y (Y.gskipU rfl) ?_);refine qQ ?_;refine N.tn ?_)|refine Q.dT rfl rfl rfl ?_|refine Q.dF rfl rfl rfl ?_|(refine D.e rfl rfl rfl ?_;(first|(refine GQ.a ?_;refine Q.al (λb1=> ?_))|(refine GQ.s ?_;refine Q.st ?_));refine qQ ?_;refine N.tn ?_))
 refine D.yp rfl rfl rfl (Y.cv32 (a:=x0.toNat) rfl zo) ?_
 repeat (first|refine Q.dyn rfl rfl rfl ?_|refine Q.dyl rfl rfl rfl ?_|refine D.y rfl rfl rfl zk (by first|exact (Y.ldRj rfl (by first|assumption|exact vi.sub (by assumption)) rfl)|exact Y.guard rfl (Y.ldRj rfl (by first|assumption|exact vi.sub (by assumption)) rfl)) ?_|refine D.endA ?_|refine Q.dy rfl rfl rfl ?_|refine Q.dp rfl rfl rfl ?_|refine D.end_ ?_|refine Q.endH ?_|(refine D.e rfl rfl rfl ?_;(first|refine S.gskip1 rfl ?_|refine S.gskip rfl ?_|refine S.y (Y.gskipU rfl) ?_);refine qQ ?_;refine N.tn ?_)|refine Q.dT rfl rfl rfl ?_|refine Q.dF rfl rfl rfl ?_|(refine D.e rfl rfl rfl ?_;(first|(refine GQ.a ?_;refine Q.al (λb1=> ?_))|(refine GQ.s ?_;refine Q.st ?_));refine qQ ?_;refine N.tn ?_))
 refine D.yp rfl rfl rfl (Y.cv32 (a:=x1.toNat) rfl zo) ?_;refine D.yp rfl rfl rfl (Y.shl32 (a:=x1.toNat) (b:=8) rfl rfl zd zo) ?_;refine D.yp rfl rfl rfl (Y.or32a (a:=x0.toNat) (b:=x1.toNat) (m:=8) rfl rfl zo zo) ?_
 repeat (first|refine Q.dyn rfl rfl rfl ?_|refine Q.dyl rfl rfl rfl ?_|refine D.y rfl rfl rfl zk (by first|exact (Y.ldRj rfl (by first|assumption|exact vi.sub (by assumption)) rfl)|exact Y.guard rfl (Y.ldRj rfl (by first|assumption|exact vi.sub (by assumption)) rfl)) ?_|refine D.endA ?_|refine Q.dy rfl rfl rfl ?_|refine Q.dp rfl rfl rfl ?_|refine D.end_ ?_|refine Q.endH ?_|(refine D.e rfl rfl rfl ?_;(first|refine S.gskip1 rfl ?_|refine S.gskip rfl ?_|refine S.y (Y.gskipU rfl) ?_);refine qQ ?_;refine N.tn ?_)|refine Q.dT rfl rfl rfl ?_|refine Q.dF rfl rfl rfl ?_|(refine D.e rfl rfl rfl ?_;(first|(refine GQ.a ?_;refine Q.al (λb1=> ?_))|(refine GQ.s ?_;refine Q.st ?_));refine qQ ?_;refine N.tn ?_))
 refine D.yp rfl rfl rfl (Y.cv32 (a:=x2.toNat) rfl zo) ?_;refine D.yp rfl rfl rfl (Y.shl32 (a:=x2.toNat) (b:=16) rfl rfl zd zo) ?_;refine D.yp rfl rfl rfl (Y.or32a (a:=x0.toNat+x1.toNat*2^8) (b:=x2.toNat) (m:=16) rfl rfl zo zo) ?_
 repeat (first|refine Q.dyn rfl rfl rfl ?_|refine Q.dyl rfl rfl rfl ?_|refine D.y rfl rfl rfl zk (by first|exact (Y.ldRj rfl (by first|assumption|exact vi.sub (by assumption)) rfl)|exact Y.guard rfl (Y.ldRj rfl (by first|assumption|exact vi.sub (by assumption)) rfl)) ?_|refine D.endA ?_|refine Q.dy rfl rfl rfl ?_|refine Q.dp rfl rfl rfl ?_|refine D.end_ ?_|refine Q.endH ?_|(refine D.e rfl rfl rfl ?_;(first|refine S.gskip1 rfl ?_|refine S.gskip rfl ?_|refine S.y (Y.gskipU rfl) ?_);refine qQ ?_;refine N.tn ?_)|refine Q.dT rfl rfl rfl ?_|refine Q.dF rfl rfl rfl ?_|(refine D.e rfl rfl rfl ?_;(first|(refine GQ.a ?_;refine Q.al (λb1=> ?_))|(refine GQ.s ?_;refine Q.st ?_));refine qQ ?_;refine N.tn ?_))
 refine D.yp rfl rfl rfl (Y.cv32 (a:=x3.toNat) rfl zo) ?_;refine D.yp rfl rfl rfl (Y.shl32 (a:=x3.toNat) (b:=24) rfl rfl zd zo) ?_;refine D.yp rfl rfl rfl (Y.or32a (a:=x0.toNat+x1.toNat*2^8+x2.toNat*2^16) (b:=x3.toNat) (m:=24) rfl rfl zo zo) ?_
 repeat (first|refine Q.dyn rfl rfl rfl ?_|refine Q.dyl rfl rfl rfl ?_|refine D.y rfl rfl rfl zk (by first|exact (Y.ldRj rfl (by first|assumption|exact vi.sub (by assumption)) rfl)|exact Y.guard rfl (Y.ldRj rfl (by first|assumption|exact vi.sub (by assumption)) rfl)) ?_|refine D.endA ?_|refine Q.dy rfl rfl rfl ?_|refine Q.dp rfl rfl rfl ?_|refine D.end_ ?_|refine Q.endH ?_|(refine D.e rfl rfl rfl ?_;(first|refine S.gskip1 rfl ?_|refine S.gskip rfl ?_|refine S.y (Y.gskipU rfl) ?_);refine qQ ?_;refine N.tn ?_)|refine Q.dT rfl rfl rfl ?_|refine Q.dF rfl rfl rfl ?_|(refine D.e rfl rfl rfl ?_;(first|(refine GQ.a ?_;refine Q.al (λb1=> ?_))|(refine GQ.s ?_;refine Q.st ?_));refine qQ ?_;refine N.tn ?_))
 rw[←hw4];have hlen:6≤(x0::x1::x2::x3::x4::x5::tl).length:=by simp
 clear hrA hx0 hx1 hx2 hx3 hx4 hx5 hw4 h6;generalize x0::x1::x2::x3::x4::x5::tl=bs at*;refine Q.r ?_;refine S.y (Y.slB (l:=4) (h:=6+nn) rfl rfl rfl rfl zo zo zo) ?_;have hb4:=wq.cut h hc 4 (2+nn) zo;have el:6+nn - 4=((bs.drop 4).take (2+nn)).length:=by rw[jP,jE];omega
 rw[el];refine Q.r ?_;(repeat (intro b1;refine Q.r ?_));refine S.cr rfl (mw (some ⟨b1,0,none⟩) 1 [⟨some ⟨b,if c=4 then o else o+4*1,none⟩,c - 4,(bs.drop 4).take (2+nn)⟩] _ (qY.row1y rfl) ?_ (xL.rd hT) (by simp) ?_) ?_
 ·intro u hu
  rw[ji.1 hu];exact hb4.rd
 ·simp[qX];omega
 rintro _ _ ⟨rfl,rfl⟩;have ec:qX [⟨some ⟨b,if c=4 then o else o+4*1,none⟩,c - 4,(bs.drop 4).take (2+nn)⟩]=(bs.drop 4).take (2+nn):=by simp[qX]
 rw[ec];have hs1:=Yg ((bs.drop 4).take (2+nn))
 by_cases h7:Ks ((bs.drop 4).take (2+nn))≠yL (bs.take 4)
 ·rw[jb h7] at hE
  refine Q.r ?_;exact N.r3 (RV.tmp rfl (RV.tmp rfl (RV.tmp rfl RV.nil))) (qi.drop (kZ _)) (hno 5 zd hE)
 rw[ja h7] at hE;refine Q.r ?_;refine Q.dgo [] [4,9] [] [0,1,2,3,5,6,7,8,4,9,10,11,12] ?_;refine Q.rd ?_;refine D.yp rfl rfl rfl (Y.slB (l:=6) (h:=6+nn) rfl rfl rfl rfl zo zo zo) ?_;have hb6:=wq.cut h hc 6 nn zo;have hbt:=wq.tail h hc (6+nn) zo;have el6:6+nn - 6=((bs.drop 6).take nn).length:=by rw[jP,jE];omega
 have elt:bs.length - (6+nn)=(bs.drop (6+nn)).length:=by rw[jE]
 rw[el6];refine Q.rd ?_;refine D.yp rfl rfl rfl (Y.slF (l:=6+nn) rfl rfl zo zo) ?_;rw[elt];refine Q.rd ?_;refine D.e rfl rfl rfl ?_;refine S.cr rfl (VU _ _ ((bs.drop 6).take nn) M _ _ hb6.rd zo) ?_;rintro _ _ ⟨v,M1,rfl,hv,hvo,hvc,hl1,rfl⟩;refine Q.r ?_;refine Q.rd ?_;refine D.e rfl rfl rfl ?_;refine S.cr rfl (VU _ _ (bs.drop (6+nn)) M1 _ _ (hbt.mono hl1).rd zo) ?_;rintro _ _ ⟨w,M2,rfl,hw,hwo,hwc,hl2,rfl⟩;refine Q.r ?_;refine Q.rd ?_;refine Q.r ?_;refine N.r3 (RV.tmp rfl (RV.tmp rfl (RV.tmp rfl RV.nil))) ?_ ⟨v,w,M2,by rw[hE],by rw[hE,jb rfl,hnB,hv],by rw[hE,jb rfl,hnR,hw],hvo.mono hl2,hwo,by rw[hv];exact hvc,by rw[hw];exact hwc,hl1.trans hl2,rfl⟩;exact eG
theorem jCc {p:List UInt8}(h:JD p=0):(ZM p).length<p.length:=by
 have:=YN h;unfold ZM;rw[jE];omega
def QC (p:List UInt8):List (List UInt8):=if h:JD p=0 then V8 p::QC (ZM p) else []
termination_by p.length
decreasing_by exact jCc h
theorem sV {p:List UInt8}(h:JD p=0):QC p=V8 p::QC (ZM p):=by rw[QC,dif_pos h]
theorem sW {p:List UInt8}(h:JD p≠0):QC p=[]:=by rw[QC,dif_neg h]
def vI (l:List (List UInt8)):Nat:=(l.map λb=>6+b.length).sum
theorem lC (a b:List (List UInt8)):vI (a++b)=vI a+vI b:=by simp[vI]
def JV (M:OM)(vs:List YB):Prop:=∀v∈vs,wq M v∧v.bs.length≤v.c
theorem JV.mono {M M':OM}{vs:List YB}(h:JV M vs)(hl:qV M M'):JV M' vs:=λv hv=>⟨(h v hv).1.mono hl,(h v hv).2⟩
theorem Yb :∀l:List (List UInt8),l.length≤vI l
 | []=>jz _
 |b::l=>by
  have:=Yb l
  show l.length+1≤6+b.length+vI l
  omega
theorem lB (b:List UInt8):vI [b]=6+b.length:=by simp[vI]
def jBP (M:OM)(L0:HL)(l:List (List UInt8))(a:OA)(c:Nat)(L':HL):Prop:=∃vs M',vs.map YB.bs=l∧JV M' vs∧qV M M'∧L'=slO 34 1 a vs.length c (vs.flatMap YB.cells)::qp M'::L0
theorem jAQ (a:OA)(c:Nat)(bs:List UInt8)(M:OM)(L0:HL)(h:qI M a bs.length 1 (bs.map B))(hT:xL M)(hc:bs.length≤c)(hb:bs.length≤100000000000):
  qh kY 139 [.slice a bs.length c] (qp M::L0) (λr L'=>∃a' c',r=.tuple #[.slice a' (QC bs).length c',.int .i64 (vI (QC bs))]∧jBP M L0 (QC bs) a' c' L'):=by
 refine qg Tryz.func139 rfl rfl rfl ?_;refine Q.r ?_;refine ql (σ:=List YB×(OM)×OA×Nat) (λs=> [(0,.slice a bs.length c),(4,.slice s.2.2.1 s.1.length s.2.2.2),(5,.int .i64 (vI (s.1.map YB.bs)))])
  (λs=>slO 34 1 s.2.2.1 s.1.length s.2.2.2 (s.1.flatMap YB.cells)::qp s.2.1::L0)
  (λs=>vI (s.1.map YB.bs)≤bs.length∧s.1.map YB.bs++QC (bs.drop (vI (s.1.map YB.bs)))=QC bs∧JV s.2.1 s.1∧qV M s.2.1) (λs=>bs.length - vI (s.1.map YB.bs)) ([],M,none,0) zt vj ⟨jw _,rfl,(λv hv=>by cases hv),qV.refl _⟩ ?_
 rintro ⟨vs,M1,a1,c1⟩ ⟨hat,hall,hok,hl⟩;dsimp only at*;have hlen:=Yb (vs.map YB.bs);rw[jf] at hlen;have hT1:=hT.mono hl;have h1:=h.mono hl;have hsub:=qI.fromA (l:=vI (vs.map YB.bs)) h1 hat hc;rw[jX,←List.map_drop] at hsub;have eln:bs.length - vI (vs.map YB.bs)=(bs.drop (vI (vs.map YB.bs))).length:=by rw[jE]
 generalize hk:vI (vs.map YB.bs)=k at*;refine Q.r ?_;refine S.y (Y.slFa (l:=k) rfl rfl rfl hat (qI.at h1)) ?_;rw[eln] at hsub ⊢;refine S.cq (A:=qp M1) rfl (VP _ (c - k) (bs.drop k) M1 _ hsub hT1 (by rw[jE];omega) (by rw[jE];omega)) ?_;rintro _ _ ⟨v,w,M2,rfl,hv,hw,hvo,hwo,hvc,hwc,hl2,rfl⟩
 by_cases he:JD (bs.drop k)=0
 ·rw[jb he] at hv hw
  have hn:=YN he;have hbl:=dG he;rw[jE] at hn;have hvl:v.bs.length=Ws (bs.drop k):=by rw[hv,hbl]
  refine Q.r ?_;(repeat (intro b1;refine Q.r ?_));refine S.app rfl rfl (vG.sl vi.row zr zr) zr zo zo (λa7 c7=> ?_);refine Q.r ?_;have hk2:vI ((vs++[v]).map YB.bs)=k+(6+v.bs.length):=by rw[jq,lC,hk];exact jj (k+ ·) (lB _)
  refine ⟨(vs++[v],M2,a7,c7),⟨rfl,jj some (by simp),?_,trivial⟩,?_,⟨?_,?_,?_,hl.trans hl2⟩,?_⟩
  ·rw[hk2];exact jj some (jj (Value.int .i64) (by simp))
  ·dsimp only
   rw[qG,vK];exact eG
  ·dsimp only
   rw[hk2,hv,hbl];omega
  ·dsimp only
   rw[hk2,←hall,sV he,jq,ju];refine jj _ ?_;rw[←List.drop_drop,hvl]
   show v.bs::_=_
   rw[hv];rfl
  ·intro u hu
   rcases jy.1 hu with hu|hu
   ·exact (hok.mono hl2) u hu
   ·rw[ji.1 hu];exact ⟨hvo,hvc⟩
  ·dsimp only
   rw[hk2];omega
 ·refine Q.r ?_
  have e:QC bs=vs.map YB.bs:=by rw[←hall,sW he,jG]
  refine N.u rfl rfl ?_ ⟨a1,c1,by rw[e,jf,hk],vs,M2,e.symm,hok.mono hl2,hl.trans hl2,rfl⟩;exact eG
structure TR where
 txn:Int
 batch:Int
 stamp:Int
 after:Int
 who:Int
 parts:List Int
 yes:List Int
 acked:List Int
 ops:VL
structure TV where
 txn:Int
 batch:Int
 stamp:Int
 after:Int
 who:Int
 pa:OA
 pc:Nat
 parts:List Int
 ya:OA
 yc:Nat
 yes:List Int
 ka:OA
 kc:Nat
 acked:List Int
 oa:OA
 oc:Nat
 ops:List OV
abbrev TV.abs (t:TV):TR:=⟨t.txn,t.batch,t.stamp,t.after,t.who,t.parts,t.yes,t.acked,t.ops.map OV.abs⟩
abbrev TV.cells (t:TV):List Value:=[.int .u64 t.txn,.int .u64 t.batch,.int .u64 t.stamp,.int .u64 t.after,.int .i64 t.who,.slice t.pa t.parts.length t.pc,.slice t.ya t.yes.length t.yc,.slice t.ka t.acked.length t.kc,.slice t.oa t.ops.length t.oc]
structure JG where
 shards:Int
 dim:Int
 epoch:Int
 seq:Int
 last:Int
 tr:List (Int×TR)
 done:List (Int×Int)
structure bI (M:OM)(t:TV):Prop where
 p:qI M t.pa t.parts.length 1 (t.parts.map I64)
 y:qI M t.ya t.yes.length 1 (t.yes.map I64)
 k:qI M t.ka t.acked.length 1 (t.acked.map I64)
 o:qI M t.oa t.ops.length 2 (t.ops.flatMap OV.cells)
 ov:okR M t.ops
 pl:t.parts.length≤1000000
 yl:t.yes.length≤1000000
 kl:t.acked.length≤1000000
 ol:t.ops.length≤1000000
theorem bI.mono {M M':OM}{t:TV}(h:bI M t)(hl:qV M M'):bI M' t:=⟨h.p.mono hl,h.y.mono hl,h.k.mono hl,h.o.mono hl,λo ho=>(h.ov o ho).mono hl,h.pl,h.yl,h.kl,h.ol⟩
abbrev TB :=Int×Nat×TV
abbrev XI (t:Nat×TV):Value:=.pointer (some ⟨t.1,0,none⟩)
abbrev vk (t:Nat×TV):HP:=pt t.1 (cl t.2.cells 150)
def qF (ts:List TB):HP:=yA (ts.map λu=>vk u.2)
structure Vo (M:OM)(j:JG)(ts:List TB):Prop where
 s1:1≤j.shards
 s2:j.shards≤4
 tr:ts.map (λu=>(u.1,u.2.2.abs))=j.tr
 ok:∀u∈ts,bI M u.2.2
theorem Vo.mono {M M':OM}{j:JG}{ts:List TB}(h:Vo M j ts)(hl:qV M M'):Vo M' j ts:=⟨h.s1,h.s2,h.tr,λu hu=>(h.ok u hu).mono hl⟩
abbrev gP (p:Nat)(j:JG)(mt md:Nat):HP:=pt p (cl [.int .i64 j.shards,.int .i64 j.dim,.int .u64 j.epoch,.int .u64 j.seq,.int .u64 j.last,.map (some mt),.map (some md)] 131)
abbrev gT (mt:Nat)(ts:List TB):HP:=VX U64 XI mt ts
abbrev gD (md:Nat)(d:List (Int×Int)):HP:=VX U64 U64 md d
structure GX where
 mt:Nat
 md:Nat
 ts:List TB
def qD (M:OM)(p:Nat)(j:JG):HP:=d9 λx:GX=>yA [wT (Vo M j x.ts),gP p j x.mt x.md,gT x.mt x.ts,qF x.ts,gD x.md j.done]
theorem qS {p mt md:Nat}{M:OM}{j:JG}{ts:List TB}{L:HL}(h:Vo M j ts):qi (gP p j mt md::gT mt ts::qF ts::gD md j.done::L) (qD M p j::L):=
 qi.trans (qi.shut_pure h) (qi.trans (qi.shut_all (L:=[_,_,_,_,_])) (qi.shut_ex (P:=λx:GX=>yA [wT (Vo M j x.ts),gP p j x.mt x.md,gT x.mt x.ts,qF x.ts,gD x.md j.done]) ⟨mt,md,ts⟩))
theorem jCz {p:Nat}{M:OM}{j:JG}{L L':HL}(h:∀mt md ts,Vo M j ts→qi (gP p j mt md::gT mt ts::qF ts::gD md j.done::L) L'):qi (qD M p j::L) L':=
 qi.ex λx=>qi.open_all.trans (qi.pure λhx=>h x.mt x.md x.ts hx)
theorem YZ {p:Nat}{M M':OM}{j:JG}{L:HL}(hl:qV M M'):qi (qD M p j::L) (qD M' p j::L):=jCz λ_ _ _ hq=>qS (hq.mono hl)
theorem wD {g:FuncId}{args:List Value}{R:Value→HL→Prop}{p:Nat}{M:OM}{j:JG}{L:HL}
  (h:∀mt md ts,Vo M j ts→qh kY g args (gP p j mt md::gT mt ts::qF ts::gD md j.done::L) R):qh kY g args (qD M p j::L) R:=
 qh.ex λx=>qh.all (qh.pure λhx=>h x.mt x.md x.ts hx)
class KV (p:Nat)(L:HL)(M:outParam (OM))(j:outParam JG)(L0:outParam (HL)):Prop where
 ent:qi L (qD M p j::L0)
instance KV.here {p:Nat}{M:OM}{L:HL}{j:JG}:KV p (qD M p j::L) M j L:=⟨kZ _⟩
instance (priority :=low) KV.there {p:Nat} {M:OM} {A:HP} {L L0:HL} {j:JG} [h:KV p L M j L0]:KV p (A::L) M j (A::L0):=⟨(h.ent.cons).trans (qi.perm (.swap _ _ _))⟩
section
variable {n : Nat} {ops rest : List Oper} {cd : Code} {Q : vm} {f : vL} {L L0 : HL} {M : OM} {j : JG}
theorem V0 (p:Nat)[hp:KV p L M j L0](h:∀mt md ts,Vo M j ts→swp kY n cd Q f (gP p j mt md::gT mt ts::qF ts::gD md j.done::L0)):swp kY n cd Q f L:=
 vh hp.ent (nD λx=>de (K8 λhx=>h x.mt x.md x.ts hx))
theorem jB8 (p:Nat)[hp:KV p L M j L0](h:∀mt md ts,Vo M j ts→qq kY n ops rest Q f (gP p j mt md::gT mt ts::qF ts::gD md j.done::L0)):qq kY n ops rest Q f L:=
 qo hp.ent (dD λx=>YK (Ke λhx=>h x.mt x.md x.ts hx))
theorem vH (p:Nat)[hp:KV p L M j L0]{M':OM}(hl:qV M M')(hk:qq kY n ops rest Q f (qD M' p j::L0)):qq kY n ops rest Q f L:=qo (hp.ent.trans (YZ hl)) hk
theorem nB (p:Nat)[hp:KV p L M j L0]{M':OM}(hl:qV M M')(hk:swp kY n cd Q f (qD M' p j::L0)):swp kY n cd Q f L:=vh (hp.ent.trans (YZ hl)) hk
theorem S.cg {d:Tmp}{ty:TypeId}{pos:String}{af:Array Edge}{g:FuncId}{xs:Array Operand}{ats:Array TypeId}{args:List Value}{R:Value→HL→Prop}{M2:OM}{L1:HL}(p:Nat)[hp:KV p L M j L0][hm:xw L0 M2 L1][he:qj kY g]
  (hx:xJ f xs.toList=some args) (hc:qh kY g args (qD M p j::qp M2::L1) R) (hk:∀v L',R v L'→qq kY n ops rest Q (upd f d v) L'):
  qq kY n ops (⟨some d,.call ⟨.value (.func g),xs,ats⟩,ty,pos,af,none⟩::rest) Q f L:=qo (hp.ent.trans (qi.cons hm.ent)) (S.cr hx hc hk)
theorem S.cgn {d:Tmp}{ty:TypeId}{pos:String}{af:Array Edge}{g:FuncId}{xs:Array Operand}{ats:Array TypeId}{args:List Value}{R:Value→HL→Prop}(p:Nat)[hp:KV p L M j L0][he:qj kY g]
  (hx:xJ f xs.toList=some args) (hc:qh kY g args (qD M p j::L0) R) (hk:∀v L',R v L'→qq kY n ops rest Q (upd f d v) L'):
  qq kY n ops (⟨some d,.call ⟨.value (.func g),xs,ats⟩,ty,pos,af,none⟩::rest) Q f L:=qo hp.ent (S.cr hx hc hk)
end
theorem ze {α:Type}:∀(l:List α) (k:Nat) (x:α),l[k]? =some x→l.Perm (x::l.eraseIdx k)
 | [],k,x,h=>by simp at h
 |a::l,0,x,h=>by
  simp only[jh,jk] at h;subst h;exact List.Perm.refl _
 |a::l,k+1,x,h=>by
  simp only[jg] at h;exact ((ze l k x h).cons a).trans (List.Perm.swap x a _)
theorem Yw {α:Type}:∀(l:List α) (k:Nat) (x:α),k<l.length→(x::l.eraseIdx k).Perm (l.set k x)
 | [],k,x,h=>by simp at h
 |a::l,0,x,h=>List.Perm.refl _
 |a::l,k+1,x,h=>by
  simp only[jC] at h;exact (List.Perm.swap a x _).trans ((Yw l k x zo).cons a)
theorem cX {ts:List TB}{k:Nat}{u:TB}(h:ts[k]? =some u){L:HL}:qi (qF ts::L) (vk u.2::qF (ts.eraseIdx k)::L):=by
 refine qi.trans qi.open_all (qi.trans (qi.perm ?_) (qi.cons (qi.shut_all (L:=(ts.eraseIdx k).map λu=>vk u.2))));exact ((ze ts k u h).map λu=>vk u.2).append_right L
theorem ny {ts:List TB}{k:Nat}(hk:k<ts.length)(u:TB){L:HL}:qi (vk u.2::qF (ts.eraseIdx k)::L) (qF (ts.set k u)::L):=by
 refine qi.trans (qi.cons qi.open_all) (qi.trans (qi.perm ?_) (qi.shut_all (L:=(ts.set k u).map λu=>vk u.2)));exact ((Yw ts k u hk).map λu=>vk u.2).append_right L
theorem cY (ts:List TB)(u:TB){L:HL}:qi (vk u.2::qF ts::L) (qF (ts++[u])::L):=by
 refine qi.trans (qi.cons qi.open_all) (qi.trans (qi.perm ?_) (qi.shut_all (L:=(ts++[u]).map λu=>vk u.2)));have hp:(u::ts).Perm (ts++[u]):=(List.perm_append_singleton u ts).symm;exact (hp.map λu=>vk u.2).append_right L
def Vj (s id:Int):Int:=((IntKind.u64.wrap (id*11400714819323198485)).fdiv (2^32)).tmod s
theorem m5 (a:Int):0≤IntKind.u64.wrap a∧IntKind.u64.wrap a<18446744073709551616:=by
 have e:IntKind.u64.wrap a=a % 18446744073709551616:=by simp[IntKind.wrap,IntKind.bits,IntKind.signed]
 rw[e];omega
theorem Wf {s:Int}(h:1≤s)(id:Int):0≤Vj s id∧Vj s id<s:=by
 unfold Vj;have h1:=m5 (id*11400714819323198485);generalize IntKind.u64.wrap (id*11400714819323198485)=w at h1;have h2:0≤w.fdiv (2^32):=Int.fdiv_nonneg h1.1 zd;exact ⟨Int.tmod_nonneg _ h2,Int.tmod_lt_of_pos _ zo⟩
theorem jA1 (id s:Int)(L:HL)(h1:1≤s)(h2:s≤4):
  qh kY 92 [.int .u64 id,.int .i64 s] L (λr L'=>r=.int .i64 (Vj s id)∧L'=L):=by
 refine qg Tryz.func92 rfl rfl rfl ?_;refine Q.r ?_;refine S.y (Y.mul rfl rfl) ?_;refine Q.r ?_;refine S.y (Y.shrI (b:=32) rfl rfl zd) ?_;refine Q.r ?_;refine S.y (Y.cvi rfl) ?_;have es:IntKind.u64.wrap s=s:=wrap_u64 zo zo;rw[es];refine Q.r ?_;refine S.y (Y.rem rfl rfl zo) ?_;refine Q.r ?_;refine S.y (Y.cvi rfl) ?_;have hb:=Wf h1 id;have eh:IntKind.i64.wrap (Vj s id)=Vj s id:=vl zo zo;unfold Vj at eh;rw[eh];refine Q.r ?_;exact N.t rfl (kZ _) ⟨rfl,rfl⟩
abbrev vQ (p:Nat):Value:=.pointer (some ⟨p,0,none⟩)
abbrev wy (shards dim:Int):JG:=⟨shards,dim,0,0,0,[],[]⟩
theorem W3 (M:OM)(s dim:Int)(L:HL)(s1:1≤s)(s2:s≤4)(h1:1≤dim)(h2:dim≤8):
  qh kY 23 [.int .i64 s,.int .i64 dim] L (λr L'=>∃p,r=.tuple #[vQ p,.int .i64 0]∧L'=qD M p (wy s dim)::L):=by
 refine qg Tryz.func23 rfl rfl rfl ?_;refine Q.r ?_;refine S.mkm U64 XI (λmt=> ?_);refine Q.r ?_;refine S.mkm U64 U64 (λmd=> ?_);refine Q.r ?_;(repeat (intro b1;refine Q.r ?_));refine N.u rfl rfl ?_ ⟨b1,rfl,rfl⟩;refine qi.trans (M:=gP b1 (wy s dim) mt md::gT mt []::gD md []::L) eG ?_;refine qi.trans ?_ (qS (p:=b1) (mt:=mt) (md:=md) (j:=wy s dim) (ts:=[]) ⟨s1,s2,rfl,λu hu=>by cases hu⟩);refine qi.cons (qi.cons ?_);exact qi.trans (qi.perm (List.Perm.refl _)) (qi.shut_all (L:=[]))
theorem pZ (M:OM)(p:Nat)(j:JG)(t:Int)(L:HL):
  qh kY 48 [vQ p,.int .u64 t] (qD M p j::L) (λr L'=>r=.tuple #[.int .u64 ((qE j.done t).getD 0),.bool (qE j.done t).isSome]∧L'=qD M p j::L):=by
 refine wD λmt md ts hq=> ?_
 refine qg Tryz.func48 rfl rfl rfl ?_;refine Q.r ?_;refine S.y (Y.lk true rfl rfl (λw=>Tryz.zeroValue31 w)) ?_
 cases hz:qE j.done t with
 |none=>
  dsimp only;refine Q.r ?_;exact N.u rfl rfl (qS hq) ⟨rfl,rfl⟩
 |some s=>
  dsimp only;refine Q.r ?_;exact N.u rfl rfl (qS hq) ⟨rfl,rfl⟩
theorem pY (M:OM)(p:Nat)(j:JG)(L:HL):
  qh kY 49 [vQ p] (qD M p j::L) (λr L'=>r=.int .u64 j.last∧L'=qD M p j::L):=by
 refine wD λmt md ts hq=> ?_
 refine qg Tryz.func49 rfl rfl rfl ?_;refine Q.r ?_;exact N.t rfl (qS hq) ⟨rfl,rfl⟩
theorem Zv (p:Nat)(j:JG)(mt md:Nat)(id:Int)(L:HL)(s1:1≤j.shards)(s2:j.shards≤4):
  qh kY 178 [vQ p,.int .u64 id] (gP p j mt md::L) (λr L'=>r=.int .i64 (Vj j.shards id+1)∧L'=gP p j mt md::L):=by
 refine qg Tryz.func178 rfl rfl rfl ?_;have hb:=Wf s1 id;refine Q.r ?_;refine S.cr rfl (jA1 id j.shards _ s1 s2) ?_;rintro _ _ ⟨rfl,rfl⟩;refine Q.r ?_;exact N.t rfl (kZ _) ⟨jj (Value.int .i64) (Int.add_comm _ _),rfl⟩
abbrev Qu (p txn stamp code:Int):Int×NA:=(p,{NA.zero with kind:=5,txn:=txn,stamp:=stamp,code:=code})
abbrev YA (to batch stamp code:Int):Int×NA:=(to,{NA.zero with kind:=2,batch:=batch,stamp:=stamp,code:=code})
abbrev wK (txn:Int):NA:={NA.zero with kind:=22,txn:=txn}
theorem JM (to b s c:Int)(L:HL):
  qh kY 170 [.int .i64 to,.int .u64 b,.int .u64 s,.int .i64 c] L (λr L'=>r=.agg (zJ (YA to b s c)).toArray∧L'=L):=by
 refine qg Tryz.func170 rfl rfl rfl ?_;refine Q.r ?_;(repeat (intro b1;refine Q.r ?_));exact N.r1 RV.c (qi.drop (kZ _)) ⟨rfl,rfl⟩
theorem KP (t:Nat×TV)(L:HL):
  qh kY 119 [XI t] (vk t::L) (λr L'=>∃b,r=.slice (some ⟨b,0,none⟩) 1 1∧L'=slO 82 16 (some ⟨b,0,none⟩) 1 1 (wK t.2.txn).nv.cells::vk t::L):=by
 refine qg Tryz.func119 rfl rfl rfl ?_;refine Q.r ?_;(repeat (intro b1;refine Q.r ?_));refine N.t rfl ?_ ⟨b1,rfl,rfl⟩;refine qi.trans ?_ (vg rfl);exact eG
theorem Wr (t:Nat×TV)(a:OA)(l c:Nat)(L:HL)(hl:l≤1000000)(h2:t.2.parts.length≤1000000):
  qh kY 173 [XI t,.slice a l c] (vk t::L) (λr L'=>r=.bool (decide (l+1=t.2.parts.length))∧L'=vk t::L):=by
 refine qg Tryz.func173 rfl rfl rfl ?_;refine Q.r ?_;refine N.t rfl (kZ _) ⟨jj Value.bool ?_,rfl⟩;rw[Bool.eq_iff_iff];simp only[jS];omega
theorem mE (a:OA)(c:Nat)(xs:List Int)(x:Int)(A:HL)(h:qY A a xs.length 1 (xs.map I64))(hn:xs.length≤1000000):
  qh kY 164 [.slice a xs.length c,.int .i64 x] A (λr L'=>((∃k:Nat,k<xs.length∧xs[k]? =some x∧r=.int .i64 k)∨(x∉xs∧r=.int .i64 (-1)))∧L'=A):=by
 refine qg Tryz.func164 rfl rfl rfl ?_;refine Q.r ?_;refine ql (σ:=Nat) (λk=> [(0,.slice a xs.length c),(1,.int .i64 x),(7,.int .i64 xs.length),(8,.int .i64 k)])
  (λ_=>A) (λk=>k≤xs.length∧x∉xs.take k) (λk=>xs.length - k) 0 zt (kZ _) ⟨jw _,by simp⟩ ?_
 rintro k ⟨hk,hx⟩
 by_cases hlt:k<xs.length
 ·obtain ⟨q,hq⟩:=qx hlt
  obtain ⟨b,oo,hia,hr⟩:=qY.elem (g:=λz:Int=> [I64 z]) (λ_=>rfl) (by rw[yP];exact h) hq rfl;rw[hia]
  by_cases he:x=q
  ·subst he
   refine Q.r ?_;exact N.t rfl (kZ _) ⟨.inl ⟨k,hlt,hq,rfl⟩,rfl⟩
  ·refine Q.r ?_
   refine ⟨k+1,zt,kZ _,⟨by omega,?_⟩,by omega⟩;rw[qA hq,jy,ji];exact λh=>h.elim hx he
 ·have hke:k=xs.length:=by omega
  subst hke;rw[jI] at hx;refine Q.r ?_;exact N.t rfl (kZ _) ⟨.inr ⟨hx,rfl⟩,rfl⟩
theorem qP (a:OA)(c:Nat)(xs:List Int)(x:Int)(A:HL)(h:qY A a xs.length 1 (xs.map I64))(hn:xs.length≤1000000):
  qh kY 95 [.slice a xs.length c,.int .i64 x] A (λr L'=>r=.bool (decide (x∈xs))∧L'=A):=by
 refine qg Tryz.func95 rfl rfl rfl ?_;refine Q.r ?_;refine S.cr rfl (mE a c xs x _ h hn) ?_;rintro _ _ ⟨⟨k,hk,hx,rfl⟩|⟨hx,rfl⟩,rfl⟩
 ·have hm:x∈xs:=jn hx
  refine Q.r ?_;refine N.t rfl (kZ _) ⟨jj Value.bool ?_,rfl⟩;rw[jo hm];exact jo zo
 ·refine Q.r ?_
  refine N.t rfl (kZ _) ⟨jj Value.bool ?_,rfl⟩;rw[jv hx];rfl
theorem zS (txn stamp code:Int)(a:OA)(c:Nat)(ps:List Int)(A:HL)(h:qY A a ps.length 1 (ps.map I64))(hn:ps.length≤1000000):
  qh kY 118 [.int .u64 txn,.int .u64 stamp,.int .i64 code,.slice a ps.length c] A (λr L'=>∃a' c',r=.slice a' ps.length c'∧L'=slO 176 17 a' ps.length c' ((ps.map λp=>Qu p txn stamp code).flatMap zJ)::A):=by
 refine qg Tryz.func118 rfl rfl rfl ?_;refine Q.r ?_;refine ql (σ:=Nat×OA×Nat×List (Int×NA)) (λs=> [(0,.int .u64 txn),(1,.int .u64 stamp),(2,.int .i64 code),(12,.slice a ps.length c),(13,.int .i64 ps.length),(9,.slice s.2.1 s.2.2.2.length s.2.2.1),(14,.int .i64 s.1)])
  (λs=>slO 176 17 s.2.1 s.2.2.2.length s.2.2.1 (s.2.2.2.flatMap zJ)::A)
  (λs=>s.1≤ps.length∧s.2.2.2=(ps.take s.1).map λp=>Qu p txn stamp code) (λs=>ps.length - s.1) (0,none,0,[]) zt vj ⟨by omega,by simp⟩ ?_
 rintro ⟨k,a3,c3,us⟩ ⟨hk,hus⟩;dsimp only at hk hus ⊢;have hul:us.length=k:=by rw[hus,jf,jP];omega
 by_cases hlt:k<ps.length
 ·obtain ⟨q,hq⟩:=qx hlt
  have hrs:qY (slO 176 17 a3 us.length c3 (us.flatMap zJ)::A) a ps.length 1 (ps.flatMap λz:Int=> [I64 z]):=by rw[yP];exact h.sub
  obtain ⟨b,oo,hia,hr⟩:=qY.elem (g:=λz:Int=> [I64 z]) (λ_=>rfl) hrs hq rfl;clear hrs;rw[hia];refine Q.r ?_;(repeat (intro b1;refine Q.r ?_));refine S.app rfl rfl (vG.sl vi.row zr zr) zr zo zo (λa7 c7=> ?_);refine Q.r ?_;refine ⟨(k+1,a7,c7,us++[Qu q txn stamp code]),⟨rfl,rfl,rfl,rfl,rfl,jj some (by simp),rfl,trivial⟩,?_,⟨by dsimp only;omega,?_⟩,by dsimp only;omega⟩
  ·dsimp only
   rw[qG,vK];exact eG
  ·dsimp only
   rw[qA hq,jq,←hus];rfl
 ·have hke:k=ps.length:=by omega
  subst hke;rw[jI] at hus;subst hus;refine Q.r ?_;rw[jf];exact N.t rfl (kZ _) ⟨a3,c3,rfl,rfl⟩
abbrev zY (t:TR)(stamp code:Int):List (Int×NA):=(t.parts.map λp=>Qu p t.txn stamp code)++[YA t.who t.batch stamp code]
theorem pV (t:Nat×TV)(stamp code:Int)(M:OM)(L:HL)(ht:bI M t.2):
  qh kY 120 [XI t,.int .u64 stamp,.int .i64 code] (vk t::qp M::L) (λr L'=>∃a' c',r=.slice a' (t.2.parts.length+1) c'∧L'=slO 176 17 a' (t.2.parts.length+1) c' ((zY t.2.abs stamp code).flatMap zJ)::vk t::qp M::L):=by
 refine qg Tryz.func120 rfl rfl rfl ?_;have hpl:=ht.pl;refine Q.r ?_;refine Q.dgo [true] [12,25,26,27] [] [0,1,2,3,4,5,6,7,8,9,10,11,13,14,15,16,17,18,19,20,21,22,23,24,12,25,26,27,28] ?_;refine Q.rd ?_;refine D.e rfl rfl rfl ?_;refine S.cr rfl (zS t.2.txn stamp code t.2.pa t.2.pc t.2.parts _ ht.p.rd ht.pl) ?_;rintro _ _ ⟨a1,c1,rfl,rfl⟩;refine Q.r ?_;refine Q.rd ?_;refine D.e rfl rfl rfl ?_;refine S.cr rfl (JM t.2.who t.2.batch stamp code _) ?_;rintro _ _ ⟨rfl,rfl⟩;refine Q.r ?_;refine Q.rd ?_;(repeat (intro b1;refine Q.rd ?_));refine D.e rfl rfl rfl ?_;refine S.app rfl rfl (vG.sl vi.row zr zr) zr zo zo (λa7 c7=> ?_);refine Q.r ?_;refine Q.rd ?_;refine Q.r ?_;refine N.t rfl ?_ ⟨a7,c7,rfl,rfl⟩;unfold zY;rw[vK];exact eG
structure FV where
 a:OA
 c:Nat
 bs:List UInt8
 firm:Nat
abbrev FV.cells (v:FV):List Value:=[.slice v.a v.bs.length v.c,.int .i64 v.firm]
abbrev DE :=List UInt8×Nat×FV
abbrev DE.abs (u:DE):List UInt8×List UInt8×Nat:=(u.1,u.2.2.bs,u.2.2.firm)
abbrev gE (t:Nat×FV):Value:=.pointer (some ⟨t.1,0,none⟩)
abbrev yJ (t:Nat×FV):HP:=pt t.1 (cl t.2.cells 126)
abbrev xg (t:Nat×FV):HP:=slO 5 1 t.2.a t.2.bs.length t.2.c (t.2.bs.map B)
def xm (ts:List DE):HP:=yA ((ts.map λu=>yJ u.2)++(ts.map λu=>xg u.2))
structure DK where
 left:Int
 down:Bool
 room:Int
 fs:List (List UInt8×List UInt8×Nat)
def qT (l:List (List UInt8×List UInt8×Nat)):Nat:=(l.map λu=>u.2.1.length).sum
structure W5 (d:DK)(ts:List DE):Prop where
 fs:ts.map DE.abs=d.fs
 key:qm ts
 lm: -1≤d.left∧d.left≤1000000
 rm:0≤d.room∧d.room≤1048576
 used:(qT d.fs:Int)≤d.room
 few:ts.length≤16
 firm:∀u∈ts,u.2.2.firm≤u.2.2.bs.length
abbrev dP (p mp:Nat)(d:DK):HP:=pt p (cl [.int .i64 d.left,.bool d.down,.int .i64 d.room,.map (some mp)] 64)
abbrev dM (mp:Nat)(ts:List DE):HP:=VX str gE mp ts
structure DX where
 mp:Nat
 ts:List DE
def qt (p:Nat)(d:DK):HP:=d9 λx:DX=>yA [wT (W5 d x.ts),dP p x.mp d,dM x.mp x.ts,xm x.ts]
theorem vD {p mp:Nat}{d:DK}{ts:List DE}{L:HL}(h:W5 d ts):qi (dP p mp d::dM mp ts::xm ts::L) (qt p d::L):=
 qi.trans (qi.shut_pure h) (qi.trans (qi.shut_all (L:=[_,_,_,_])) (qi.shut_ex (P:=λx:DX=>yA [wT (W5 d x.ts),dP p x.mp d,dM x.mp x.ts,xm x.ts]) ⟨mp,ts⟩))
theorem wm {g:FuncId}{args:List Value}{R:Value→HL→Prop}{p:Nat}{d:DK}{L:HL}
  (h:∀mp ts,W5 d ts→qh kY g args (dP p mp d::dM mp ts::xm ts::L) R):qh kY g args (qt p d::L) R:=
 qh.ex λx=>qh.all (qh.pure λhx=>h x.mp x.ts hx)
class Xv (p:Nat)(L:HL)(d:outParam DK)(L0:outParam (HL)):Prop where
 ent:qi L (qt p d::L0)
instance Xv.here {p:Nat}{L:HL}{d:DK}:Xv p (qt p d::L) d L:=⟨kZ _⟩
instance (priority :=low) Xv.there {p:Nat} {A:HP} {L L0:HL} {d:DK} [h:Xv p L d L0]:Xv p (A::L) d (A::L0):=⟨(h.ent.cons).trans (qi.perm (.swap _ _ _))⟩
section
variable {n : Nat} {ops rest : List Oper} {cd : Code} {Q : vm} {f : vL} {L L0 L1 : HL} {d : DK}
theorem Yq (p:Nat)[hp:Xv p L d L0](h:∀mp ts,W5 d ts→swp kY n cd Q f (dP p mp d::dM mp ts::xm ts::L0)):swp kY n cd Q f L:=
 vh hp.ent (nD λx=>de (K8 λhx=>h x.mp x.ts hx))
theorem S.ck {dd:Tmp}{ty:TypeId}{pos:String}{af:Array Edge}{g:FuncId}{xs:Array Operand}{ats:Array TypeId}{args:List Value}{R:Value→HL→Prop}(p:Nat)[hp:Xv p L d L0][he:Go.SX.qj kY g]
  (hx:xJ f xs.toList=some args) (hc:qh kY g args (qt p d::L0) R) (hk:∀v L',R v L'→qq kY n ops rest Q (upd f dd v) L'):
  qq kY n ops (⟨some dd,.call ⟨.value (.func g),xs,ats⟩,ty,pos,af,none⟩::rest) Q f L:=qo hp.ent (S.cr hx hc hk)
theorem S.ckm {dd:Tmp}{ty:TypeId}{pos:String}{af:Array Edge}{g:FuncId}{xs:Array Operand}{ats:Array TypeId}{args:List Value}{R:Value→HL→Prop}{M:OM}(p:Nat)[hp:Xv p L d L0][hm:xw L0 M L1][he:Go.SX.qj kY g]
  (hx:xJ f xs.toList=some args) (hc:qh kY g args (qt p d::qp M::L1) R) (hk:∀v L',R v L'→qq kY n ops rest Q (upd f dd v) L'):
  qq kY n ops (⟨some dd,.call ⟨.value (.func g),xs,ats⟩,ty,pos,af,none⟩::rest) Q f L:=qo (hp.ent.trans (qi.cons hm.ent)) (S.cr hx hc hk)
end
theorem pq {ts:List DE}{k:Nat}{u:DE}(h:ts[k]? =some u){L:HL}:qi (xm ts::L) (yJ u.2::xg u.2::xm (ts.eraseIdx k)::L):=by
 refine qi.trans qi.open_all (qi.trans (qi.perm ?_) (qi.cons (qi.cons (qi.shut_all (L:=((ts.eraseIdx k).map λu=>yJ u.2)++(ts.eraseIdx k).map λu=>xg u.2)))));have h1:=(ze ts k u h).map λu=>yJ u.2
 have h2:=(ze ts k u h).map λu=>xg u.2
 have h3:=(h1.append h2).append_right L;refine h3.trans ?_;simp only[jL,List.cons_append,ju];exact (List.perm_middle).cons _
theorem jCK {ts ts':List DE}{u:DE}(hp:(u::ts).Perm ts'){L:HL}:qi (yJ u.2::xg u.2::xm ts::L) (xm ts'::L):=by
 refine qi.trans (qi.cons (qi.cons qi.open_all)) (qi.trans (qi.perm ?_) (qi.shut_all (L:=(ts'.map λu=>yJ u.2)++ts'.map λu=>xg u.2)));have h1:=hp.map λu=>yJ u.2
 have h2:=hp.map λu=>xg u.2
 have h3:=(h1.append h2).append_right L;refine List.Perm.trans ?_ h3;simp only[jL,List.cons_append,ju];exact (List.perm_middle.symm).cons _
theorem jHJ {ts:List DE}{k:Nat}(hk:k<ts.length)(u:DE){L:HL}:qi (yJ u.2::xg u.2::xm (ts.eraseIdx k)::L) (xm (ts.set k u)::L):=jCK (Yw ts k u hk)
theorem jCL (ts:List DE)(u:DE){L:HL}:qi (yJ u.2::xg u.2::xm ts::L) (xm (ts++[u])::L):=jCK (List.perm_append_singleton u ts).symm
def wB (d:DK):Bool:= !(d.down||decide (d.left=0))
def vd (d:DK):DK:=if wB d then {d with left:=max (d.left - 1) (-1)} else {d with down:=true}
theorem nJ (p mp:Nat)(d:DK)(L:HL)(hl: -1≤d.left∧d.left≤1000000):
  qh kY 122 [.pointer (some ⟨p,0,none⟩)] (dP p mp d::L) (λr L'=>r=.bool (wB d)∧L'=dP p mp (vd d)::L):=by
 refine qg Tryz.func122 rfl rfl rfl ?_;obtain ⟨left,down,room,fs⟩:=d;dsimp only at hl
 show swp _ _ _ _ _ (pt p (cl [.int .i64 left,.bool down,.int .i64 room,.map (some mp)] 64)::L)
 cases down with
 |true=>
  refine Q.r ?_;exact N.t rfl (kZ _) ⟨rfl,rfl⟩
 |false=>
  by_cases h0:left=0
  ·subst h0
   refine Q.r ?_;exact N.t rfl (kZ _) ⟨rfl,rfl⟩
  ·refine Q.r ?_
   have e:wB ⟨left,false,room,fs⟩=true:=by unfold wB;rw[jv h0];rfl
   exact N.t rfl (kZ _) ⟨by rw[e],by unfold vd;rw[e];rfl⟩
def WA (bs:List UInt8):Prop:=1≤bs.length∧bs.length≤8∧∀b∈bs,(97≤b.toNat∧b.toNat≤122)∨(48≤b.toNat∧b.toNat≤57)
theorem Yz (bs:List UInt8)(L:HL)(h:WA bs):
  qh kY 60 [str bs] L (λr L'=>r=.bool true∧L'=L):=by
 refine qg Tryz.func60 rfl rfl rfl ?_;obtain ⟨h1,h8,hb⟩:=h;have h128:∀b∈bs,b.toNat<128:=λb hbm=>by rcases hb b hbm with h|h<;>omega
 refine Q.r ?_;refine S.rgs rfl (λr=> ?_);refine Q.r ?_;refine qw (σ:=Unit) (λ_=> [(0,str bs)]) (λ_=>L) (λ_=>True) ?_ ?_
 ·refine ql (σ:=Nat) (λk=> [(0,str bs),(6,.pointer (some ⟨r,0,none⟩))]) (λk=>pt r (.stringIter ⟨bs.toArray⟩ k)::L) (λk=>k≤bs.length) (λk=>bs.length - k) 0 zt (kZ _) zo ?_
  intro k hk;refine Q.r ?_;refine S.nxs (k:=k) rfl (λhle=> ?_) (λb hbk=> ?_) h128
  ·refine Q.r ?_
   exact ⟨(),zt,qi.drop (kZ _),trivial⟩
  ·have hlt:k<bs.length:=(jm.1 hbk).1
   have hq:=hb b (jn hbk)
   by_cases hlet:97≤b.toNat
   ·have h122:b.toNat≤122:=by omega
    refine Q.r ?_;exact ⟨k+1,zt,kZ _,by omega,by omega⟩
   ·have h48:48≤b.toNat:=by omega
    have h57:b.toNat≤57:=by omega
    refine Q.r ?_;exact ⟨k+1,zt,kZ _,by omega,by omega⟩
 ·intro _ _
  have hne:bs≠[]:=by intro h;subst h;exact absurd h1 zd
  have h8':(bs.length:Int)≤8:=by omega
  refine Q.r ?_;rw[jv hne];refine Q.r ?_;refine S.y (Y.stL rfl) ?_;refine Q.r ?_;refine N.t rfl (kZ _) ⟨?_,rfl⟩;rw[jo h8']
abbrev qK (p:Nat):Value:=.pointer (some ⟨p,0,none⟩)
theorem Xl {ts:List DE}{fs:List (List UInt8×List UInt8×Nat)}(h:ts.map DE.abs=fs)(x:List UInt8):qE fs x=(qE (α:=Nat×FV) ts x).map λu=>(u.2.bs,u.2.firm):=by
 subst h
 induction ts with
 |nil=>rfl
 |cons t ts ih=>
  unfold qE at ih ⊢;rw[jL,List.find?_cons,List.find?_cons]
  by_cases hx:t.1=x
  ·have:decide ((DE.abs t).1=x)=true:=jo hx
   rw[this];rfl
  ·have:decide ((DE.abs t).1=x)=false:=jv hx
   rw[this];exact ih
theorem YV {ts:List DE}{x:List UInt8}{u:Nat×FV}(h:qE (α:=Nat×FV) ts x=some u):∃k:Nat,ts[k]? =some ((x,u):DE):=by
 unfold qE at h;obtain ⟨v,hv,rfl⟩:=Option.map_eq_some_iff.1 h;have h1:=List.mem_of_find?_eq_some hv;have h2:=List.find?_some hv
 simp at h2
 obtain ⟨k,hk⟩:=List.mem_iff_getElem?.1 h1;exact ⟨k,by rw[hk,←h2]⟩
theorem Jf {ts:List DE}{fs:List (List UInt8×List UInt8×Nat)}(h:ts.map DE.abs=fs){x:List UInt8}:qE fs x=none↔qE (α:=Nat×FV) ts x=none:=by
 rw[Xl h,Option.map_eq_none_iff]
theorem qU (d:DK):(vd d).fs=d.fs:=by unfold vd;split<;>rfl
theorem Xa (d:DK):(vd d).room=d.room:=by unfold vd;split<;>rfl
theorem W5.spend {d:DK}{ts:List DE}(h:W5 d ts):W5 (vd d) ts:=by
 have h1:=h.lm;refine ⟨by rw[qU];exact h.fs,h.key,?_,by rw[Xa];exact h.rm,by rw[qU,Xa];exact h.used,h.few,h.firm⟩;unfold vd
 split
 ·show -1≤max (d.left - 1) (-1)∧max (d.left - 1) (-1)≤1000000
  omega
 ·exact h1
def we (d:DK)(n:List UInt8):Prop:=qE d.fs n≠none
instance (d :DK) (n:List UInt8):Decidable (we d n):=inferInstanceAs (Decidable (_≠none))
abbrev sC (n:List UInt8):List Value:=[str n]
theorem Wi (xs:List (List UInt8)):xs.flatMap sC=xs.map str:=by induction xs with
 |nil=>rfl
 |cons x xs ih=>simp[jK,ih]
def jIQ (p:Nat)(d:DK)(ns:List (List UInt8))(L:HL)(R:Value→HL→Prop)(r:Value)(L':HL):Prop:=
 (wB d=false∧r=.int .i64 9∧L'=qt p (vd d)::L)∨(wB d=true∧(∃n∈ns,¬we d n)∧r=.int .i64 6∧L'=qt p (vd d)::L)∨(wB d=true∧(∀n∈ns,we d n)∧R r L')
theorem zA (p:Nat)(d:DK)(g:FuncId)(cs:List Value)[he:Go.SX.qj kY g](a:OA)(c:Nat)(ns:List (List UInt8))(L:HL)(R:Value→HL→Prop)
  (hns:∀(X:HL),qY (X++L) a ns.length 1 (ns.map str)) (hn:ns.length≤1000000) (hc:wB d=true→(∀n∈ns,we d n)→qh kY g cs (qt p (vd d)::L) R):
  qh kY 57 [qK p,.func (.func g) #[] cs.toArray,.slice a ns.length c] (qt p d::L) (jIQ p d ns L R):=by
 refine wm λmp ts hd=> ?_
 refine qg Tryz.func57 rfl rfl rfl ?_;refine Q.r ?_;refine S.cq (A:=dP p mp d) rfl (nJ p mp d _ hd.lm) ?_;rintro _ _ ⟨rfl,rfl⟩;have hds:=hd.spend
 cases hsp:wB d with
 |false=>
  refine Q.r ?_;exact N.t rfl (qi.trans (M:=dP p mp (vd d)::dM mp ts::xm ts::L) eG (vD hds)) (.inl ⟨hsp,rfl,rfl⟩)
 |true=>
  refine Q.r ?_;have hns0:=hns [dP p mp (vd d),dM mp ts,xm ts];rw[←Wi] at hns0;refine qw (σ:=Unit) (λ_=> [(1,.func (.func g) #[] cs.toArray)]) (λ_=>qt p (vd d)::L) (λ_=>∀n∈ns,we d n) ?_ ?_
  ·refine ql (σ:=Nat) (λk=> [(0,qK p),(1,.func (.func g) #[] cs.toArray),(18,.slice a ns.length c),(19,.int .i64 ns.length),(20,.int .i64 k)]) (λ_=>dP p mp (vd d)::dM mp ts::xm ts::L)
    (λk=>k≤ns.length∧∀n∈ns.take k,we d n) (λk=>ns.length - k) 0 zt (kZ _) ⟨by omega,λn hn=>by simp at hn⟩ ?_
   rintro k ⟨hk,hall⟩
   by_cases hlt:k<ns.length
   ·obtain ⟨n,hnk⟩:=qx hlt
    obtain ⟨b,o,rfl,hr⟩:=qY.elem (g:=sC) (λ_=>rfl) hns0 hnk rfl;refine Q.r ?_;refine S.y (Y.lk false rfl rfl (λw=>Tryz.zeroValue124 w)) ?_
    cases hz:qE (α:=Nat×FV) ts n with
    |none=>
     dsimp only;refine Q.r ?_;exact N.t rfl (vD hds) (.inr (.inl ⟨hsp,⟨n,jn hnk,λh=>h ((Jf hd.fs).2 hz)⟩,rfl,rfl⟩))
    |some u=>
     dsimp only;refine Q.r ?_;refine ⟨k+1,zt,kZ _,⟨by omega,λm hm=> ?_⟩,by omega⟩;rw[qA hnk] at hm
     rcases jy.1 hm with hm|hm
     ·exact hall m hm
     ·rw[ji.1 hm]
      intro h;rw[(Jf hd.fs).1 h] at hz;cases hz
   ·have hke:k=ns.length:=by omega
    subst hke;rw[jI] at hall;refine Q.r ?_;exact ⟨(),zt,vD hds,hall⟩
  ·intro _ hall
   refine Q.r ?_;refine S.crF (fs:=[]) (args:=[]) (cs:=cs) rfl rfl (hc hsp hall) ?_;intro v L' hR;refine Q.r ?_;exact N.t rfl (kZ _) (.inr (.inr ⟨hsp,hall,hR⟩))
theorem Ya {ts:List DE}{k:Nat}{u:DE}(h:ts[k]? =some u){L:HL}:qi (yJ u.2::xg u.2::xm (ts.eraseIdx k)::L) (xm ts::L):=jCK (ze ts k u h).symm
section
variable {n : Nat} {ops rest : List Oper} {cd : Code} {Q : vm} {f : vL} {L L0 : HL}
theorem dB {ts:List DE}[hp:xp (xm ts) L L0]{k:Nat}{u:DE}(h:ts[k]? =some u)(hk:qq kY n ops rest Q f (yJ u.2::xg u.2::xm (ts.eraseIdx k)::L0)):qq kY n ops rest Q f L:=qo (hp.ent.trans (pq h)) hk
theorem Vu {ts:List DE}[hp:xp (xm ts) L L0]{k:Nat}{u:DE}(h:ts[k]? =some u)(hk:swp kY n cd Q f (yJ u.2::xg u.2::xm (ts.eraseIdx k)::L0)):swp kY n cd Q f L:=vh (hp.ent.trans (pq h)) hk
end
theorem Kz {d:DK}{ts:List DE}(h:W5 d ts):(ts.map λu=>u.2.2.bs.length).sum=qT d.fs:=by
 rw[←h.fs];unfold qT;rw[kE];rfl
def Xy (ts:List DE)(vis:List Nat):Nat:=(vis.filterMap λi=>(ts[i]?).map λu=>u.2.2.bs.length).sum
theorem fX (ts:List DE)(a b:List Nat):Xy ts (a++b)=Xy ts a+Xy ts b:=by unfold Xy;rw[List.filterMap_append,List.sum_append]
theorem fY {ts:List DE}{vis:List Nat}(h1:vis.Nodup)(h2:∀i∈vis,i<ts.length)(h3:∀i,i<ts.length→i∈vis):Xy ts vis=(ts.map λu=>u.2.2.bs.length).sum:=by
 unfold Xy;exact (X0 (λu:DE=>u.2.2.bs.length) h1 h2 h3).sum_nat
theorem jDQ {ts:List DE}{vis:List Nat}(h1:vis.Nodup)(h2:∀i∈vis,i<ts.length):Xy ts vis≤(ts.map λu=>u.2.2.bs.length).sum:=by
 have h:=fY (ts:=ts) (vis:=vis++(List.range ts.length).filter λi=>decide (i∉vis)) ?_ ?_ ?_
 ·rw[fX] at h;omega
 ·refine List.nodup_append.2 ⟨h1,List.Sublist.nodup List.filter_sublist List.nodup_range,λx hx y hy e=> ?_⟩
  subst e;have:=(jB.1 hy).2
  simp at this;exact this hx
 ·intro i hi
  rcases jy.1 hi with hi|hi
  ·exact h2 i hi
  ·exact List.mem_range.1 (jB.1 hi).1
 ·intro i hi
  by_cases h:i∈vis
  ·exact jy.2 (.inl h)
  ·exact jy.2 (.inr (jB.2 ⟨List.mem_range.2 hi,by simpa using h⟩))
theorem jAL (p mp:Nat)(d:DK)(ts:List DE)(L:HL)(hd:W5 d ts):
  qh kY 61 [qK p] (dP p mp d::dM mp ts::xm ts::L) (λr L'=>r=.int .i64 (qT d.fs)∧L'=dP p mp d::dM mp ts::xm ts::L):=by
 refine qg Tryz.func61 rfl rfl rfl ?_;have hu:=hd.used;have hr:=hd.rm;refine Q.r ?_;refine S.rg rfl (λr=> ?_);refine Q.r ?_;refine qw (σ:=Unit) (λ_=> [(3,.int .i64 (qT d.fs))]) (λ_=>dP p mp d::dM mp ts::xm ts::L) (λ_=>True) ?_ ?_
 ·refine ql (σ:=List Nat) (λvis=> [(12,.pointer (some ⟨r,0,none⟩)),(3,.int .i64 (Xy ts vis))])
   (λvis=>dP p mp d::bS str gE mp r ts vis::xm ts::L) (λvis=>vis.Nodup∧(∀i∈vis,i<ts.length)∧Xy ts vis≤qT d.fs) (λvis=>ts.length - vis.length) [] zt eG ⟨by simp,by simp,jw _⟩ ?_
  rintro vis ⟨hv1,hv2,hv3⟩;refine Q.r ?_;refine S.nx rfl (λhend=> ?_) (λi q hp hi=> ?_)
  ·refine Q.r ?_
   refine ⟨(),⟨?_,trivial⟩,?_,trivial⟩
   ·rw[fY hv1 hv2 hend,Kz hd];rfl
   ·exact qi.cons QU
  ·have hil:i<ts.length:=(jm.1 hp).1
   obtain ⟨hm1,hm2,hm3⟩:=K6 hv1 hv2 hil hi;have hle:=jDQ hm1 hm2;rw[Kz hd] at hle;have hap:Xy ts (vis++[i])=Xy ts vis+q.2.2.bs.length:=by
    rw[fX];unfold Xy;simp[hp]
   rw[hap] at hle;refine Q.r ?_;refine S.y (Y.en rfl hp) ?_;refine Q.r ?_;refine dB hp ?_;refine Q.r ?_;refine ⟨vis++[i],⟨rfl,by rw[hap];rfl,trivial⟩,?_,⟨hm1,hm2,by rw[hap];exact hle⟩,by simp;omega⟩;exact qi.trans (M:=yJ q.2::xg q.2::xm (ts.eraseIdx i)::dP p mp d::bS str gE mp r ts (vis++[i])::L) eG (qi.trans (Ya hp) eG)
 ·intro _ _
  refine Q.r ?_;exact N.t rfl (kZ _) ⟨rfl,rfl⟩
theorem mB (p mp:Nat)(d:DK)(L:HL):qh kY 136 [qK p] (dP p mp d::L) (λr L'=>r=.bool (!d.down)∧L'=dP p mp d::L):=by
 refine qg Tryz.func136 rfl rfl rfl ?_;refine Q.r ?_;exact N.t rfl (kZ _) ⟨rfl,rfl⟩
theorem jDE (p mp:Nat)(d:DK)(L:HL):qh kY 70 [qK p] (dP p mp d::L) (λr L'=>r=.bool (!d.down)∧L'=dP p mp d::L):=by
 refine qg Tryz.func70 rfl rfl rfl ?_;refine Q.r ?_;refine S.cr rfl (mB p mp d L) ?_;rintro _ _ ⟨rfl,rfl⟩;refine Q.r ?_;exact N.t rfl (kZ _) ⟨rfl,rfl⟩
theorem QN :∀{l:List Nat} {x:Nat},x∈l→x≤l.sum
 |y::l,x,h=>by
  rw[List.sum_cons]
  rcases j9.1 h with rfl|h
  ·omega
  ·have:=QN h;omega
def D0 (room:Int):DK:=⟨-1,false,room,[]⟩
theorem cP (room:Int)(L:HL)(h:0≤room∧room≤1048576):qh kY 6 [.int .i64 room] L (λr L'=>∃p,r=.tuple #[qK p,.int .i64 0]∧L'=qt p (D0 room)::L):=by
 refine qg Tryz.func6 rfl rfl rfl ?_;obtain ⟨h1,h2⟩:=h;refine Q.r ?_;refine S.mkm str gE (λmt=> ?_);refine Q.r ?_;(repeat (intro b1;refine Q.r ?_));refine N.u rfl rfl ?_ ⟨b1,rfl,rfl⟩;refine qi.trans (M:=dP b1 mt (D0 room)::dM mt []::L) eG ?_;refine qi.trans ?_ (vD (p:=b1) (mp:=mt) (d:=D0 room) (ts:=[]) ⟨rfl,List.nodup_nil,⟨by show (-1:Int)≤ -1;decide,by show (-1:Int)≤1000000;decide⟩,⟨h1,h2⟩,by simpa[qT,D0] using h1,by simp,λu hu=>by cases hu⟩);refine qi.cons (qi.cons ?_);exact qi.trans (qi.perm (List.Perm.refl _)) (qi.shut_all (L:=[]))
def rdE (d:DK)(n:List UInt8):Int:=if d.down then 9 else if qE d.fs n=none then 6 else 0
def Kw (d:DK)(n:List UInt8):List UInt8:=if d.down then [] else ((qE d.fs n).map (·.1)).getD []
theorem cH (p:Nat)(d:DK)(n:List UInt8)(M:OM)(L:HL):
  qh kY 72 [qK p,str n] (qt p d::qp M::L) (λr L'=>∃v M',r=.tuple #[YB.val v,.int .i64 (rdE d n)]∧v.bs=Kw d n∧wq M' v∧v.bs.length≤v.c∧qV M M'∧L'=qt p d::qp M'::L):=by
 refine wm λmp ts hd=> ?_
 refine qg Tryz.func72 rfl rfl rfl ?_;refine Q.r ?_;refine S.cr rfl (jDE p mp d _) ?_;rintro _ _ ⟨rfl,rfl⟩;unfold rdE Kw
 cases hdn:d.down with
 |true=>
  refine Q.r ?_;exact N.u rfl rfl (qi.trans (M:=dP p mp d::dM mp ts::xm ts::qp M::L) eG (vD hd)) ⟨⟨none,0,[]⟩,M,rfl,rfl,qI.nil,jz _,qV.refl _,rfl⟩
 |false=>
  refine Q.r ?_;refine S.y (Y.lk false rfl rfl (λw=>Tryz.zeroValue124 w)) ?_;rw[Xl hd.fs]
  cases hz:qE (α:=Nat×FV) ts n with
  |none=>
   dsimp only;refine Q.r ?_;exact N.u rfl rfl (qi.trans (M:=dP p mp d::dM mp ts::xm ts::qp M::L) eG (vD hd)) ⟨⟨none,0,[]⟩,M,rfl,rfl,qI.nil,jz _,qV.refl _,rfl⟩
  |some u=>
   dsimp only;refine Q.r ?_;refine S.y (Y.lk false rfl rfl (λw=>Tryz.zeroValue124 w)) ?_;rw[hz];dsimp only[cond_false];obtain ⟨k,hkk⟩:=YV hz;refine dB hkk ?_;obtain ⟨ub,ua,uc,ubs,ufirm⟩:=u;refine jEb ua (λhl ha hc=> ?_);have hul:ubs.length≤1048576:=by
    have h1:=hd.used;have h2:=hd.rm;have h3:ubs.length≤qT d.fs:=by
     rw[←Kz hd];exact QN (jA (f:=λu:DE=>u.2.2.bs.length) (jn hkk))
    omega
   refine Q.r ?_;refine S.cr rfl (VU ua uc ubs M _ _ (qY.ofS (by simp) ha) zo) ?_;rintro _ _ ⟨v,M',rfl,hv,hvo,hvc,hl',rfl⟩;refine Q.r ?_;refine N.u rfl rfl ?_ ⟨v,M',rfl,hv,hvo,by rw[hv];exact hvc,hl',rfl⟩;exact qi.trans (M:=yJ (ub,(⟨ua,uc,ubs,ufirm⟩:FV))::xg (ub,(⟨ua,uc,ubs,ufirm⟩:FV))::xm (ts.eraseIdx k)::dP p mp d::dM mp ts::qp M'::L) eG (qi.trans (Ya hkk) (qi.trans (M:=dP p mp d::dM mp ts::xm ts::qp M'::L) eG (vD hd)))
end Go.Proofs.YtlnfjhiphlfkjaaGreatDoor
namespace Go.SX
open Go
section
variable {P : Program} {n : Nat} {ops : List Oper} {Q : vm} {f : vL} {A L : HL} {E cs σ : List Nat} {listed : Array Bool}
theorem jEc {i:Nat}{o:Oper}{F:HL}{a:Act}{w:World}{k:Nat}(hi:ops[i]? =some o)(ok:wA n ops=true)(s:KO n a f)(t:St w (L++(A++F)))(hsh:XF ops.toArray (listed.setIfInBounds i true))
    (h:xg P n ops o (λf L2=>∃L',qi L2 (L'++A)∧vu P n ops Q cs A k (listed.setIfInBounds i true) true f L') f (L++A)):
    wpOp P ops.toArray (lift n F Q) i (λa w=>xE cs (λw=>∃L,St w (L++(A++F))) (listed.setIfInBounds i true) w∧ZV P ops.toArray (lift n F Q) (xE cs λw=>∃L,St w (L++(A++F))) k (listed.setIfInBounds i true) a w) a w:=by
  have h2:=h (by simpa[wA] using Qh ok hi) F a w s (by simpa using t);simp only[wpList] at h2;unfold wpOp;have hi':ops.toArray[i]? =some o:=by simpa using hi
  simp only[hi'];have key:∀a w,lift n F (λe f L2=>match e with| .normal=>∃L',qi L2 (L'++A)∧vu P n ops Q cs A k (listed.setIfInBounds i true) true f L'|_=>False) .normal a w→
      xE cs (λw=>∃L,St w (L++(A++F))) (listed.setIfInBounds i true) w∧ZV P ops.toArray (lift n F Q) (xE cs λw=>∃L,St w (L++(A++F))) k (listed.setIfInBounds i true) a w:=by
    rintro a w ⟨f,L2,s,t,L',he,q⟩;have t3:=he w F t;exact ⟨.inr ⟨L',by simpa using t3⟩,q ok F a w s hsh (by simpa using t3) (λh=>by cases h)⟩
  by_cases hw:Region.wanted o (yielded ops.toArray a.tmps)=true
  · rw[jb hw] at h2 ⊢
    refine .inl ?_
    rcases h2 with h2|⟨_,a',w',f,L,_,_,q⟩
    · unfold Oper.wp at h2 ⊢
      generalize (execOp a.eval o).run P w=r at*
      cases r with
      |ok m w'=>
        cases m<;>simp only[Oper.upon] at h2 ⊢ <;>first
          |exact key _ _ h2
          |exact h2
          | (refine Calls.mono h2 fun e w'' he => ?_
             cases e with
             |returned u=>exact key _ _ he
             |panicked c=>obtain ⟨_,_,_,_,q⟩:=he;exact q.elim
             |outgrown=>obtain ⟨_,_,_,_,_,_,q⟩:=he;exact q.elim)
          |exact Rows.mono h2 λ_ _ he=>key _ _ he
      |halt x w'=>cases x<;>simp only[Oper.upon] at h2 ⊢ <;>first|exact h2|(obtain ⟨_,_,_,_,q⟩:=h2;exact q.elim)
    · exact q.elim
  · rw[ja hw] at h2 ⊢
    exact key _ _ h2
theorem A.oneA (i:Nat){k:Nat}{o:Oper}(hr:Region.ready .any ops.toArray listed=[i])(hi:ops[i]? =some o)
  (h:xg P n ops o (λf L2=>∃L',qi L2 (L'++A)∧vu P n ops Q cs A k (listed.setIfInBounds i true) true f L') f (L++A)):vu P n ops Q cs A (k+1) listed true f L:=by
 intro ok F a w s hsh t hh;refine ⟨λh0=>(by rw[h0] at hr;cases hr),λj hj=> ?_⟩;have hri:i∈Region.ready .any ops.toArray listed:=by rw[hr];simp
 rw[hr] at hj;obtain rfl:j=i:=by simpa using hj
 exact jEc hi ok s (by simpa using t) (hsh.set hri) h
class jBa (A L:HL)(L2:outParam (HL)):Prop where
 eq:A++L=L2
instance jBa.nil {L:HL}:jBa [] L L:=⟨rfl⟩
instance jBa.cons {x:HP}{A L L2:HL}[h:jBa A L L2]:jBa (x::A) L (x::L2):=⟨jj (List.cons x) h.eq⟩
theorem D.ea {i:Nat}{o:Oper}{L2:HL}[hL:jBa A L L2](hi:ops[i]? =some o)(h9:Nat.beq i 99999=false)(hE:E.contains i=true)
  (h:qq P n ops [o] (qL (λf L2=>∃L',qi L2 (A++L')∧qH P n ops E cs A σ Q (listed.setIfInBounds i true) true f L') (λ_ _ _=>False)) f L2):qH P n ops E cs A (i::σ) Q listed true f L:=by
 intro ho hs hQ;simp only[Jd,h9,hE,cond_true,cond_false,jF,beq_iff_eq] at ho;refine _root_.Go.SX.A.oneA i ho.1 hi (qo (qi.perm (List.perm_append_comm.trans (hL.eq▸List.Perm.refl _))) λok F a w s t=>wc (h ok F a w s t) ?_);rintro e a w ⟨f,L,s,t,q⟩
 cases e<;>first|exact q.elim|(obtain ⟨L',he,q⟩:=q;exact ⟨f,L,s,t,L',he.trans (qi.perm List.perm_append_comm),q ho.2 hs hQ⟩)
class cL (A L:HL)(L':outParam (HL)):Prop where
 ent:qi L (A++L')
instance cL.nil {L:HL}:cL [] L L:=⟨kZ _⟩
instance cL.cons {x:HP}{A L L1 L':HL}[h1:xp x L L1][h2:cL A L1 L']:cL (x::A) L L':=⟨h1.ent.trans h2.ent.cons⟩
theorem D.back {L':HL}[h:cL A L L'](hk:qH P n ops E cs A σ Q listed true f L'):∃L',qi L (A++L')∧qH P n ops E cs A σ Q listed true f L':=⟨L',h.ent,hk⟩
end
end Go.SX
namespace Go.Proofs.YtlnfjhiphlfkjaaGreatDoor
open Go Go.SX
attribute [local irreducible] swp qq qL qJ vZ qh St qi qk vu qH
def vU (d:DK)(n:List UInt8):List UInt8×Nat:=(qE d.fs n).getD ([],0)
def lz (d:DK)(bs:List UInt8):Prop:=d.room<qT d.fs+bs.length
instance (d :DK) (bs:List UInt8):Decidable (lz d bs):=inferInstanceAs (Decidable (_<_))
def wrD (d:DK)(n bs:List UInt8):DK:={d with fs:=qN d.fs n ((vU d n).1++bs,(vU d n).2)}
theorem jCY {ts ts':List DE}(mp:Nat)(h:ts.map (λu=>(u.1,u.2.1))=ts'.map λu=>(u.1,u.2.1)):dM mp ts=dM mp ts':=by
 have e1:∀l:List DE,(l.map λp=>(str p.1,gE p.2))=(l.map λu=>(u.1,u.2.1)).map λq=>(str q.1,Value.pointer (some ⟨q.2,0,none⟩)):=λl=>by rw[kE];rfl
 have e2:∀l:List DE,l.map (·.1)=(l.map λu=>(u.1,u.2.1)).map (·.1):=λl=>by rw[kE];rfl
 unfold dM VX zf qm;rw[e1,e2,h,←e1,←e2]
theorem du {κ α:Type}[DecidableEq κ]{m:List (κ×α)}{k:Nat}{x:κ}{a c:α}(hk:qm m)(h:m[k]? =some (x,a)):qN m x c=m.set k (x,c):=by
 have hlt:=(jm.1 h).1;have e:m=m.take k++(x,a)::m.drop (k+1):=by
  conv=>lhs;rw[←kJ k m]
  congr 1
  rw[List.drop_eq_getElem_cons hlt,(jm.1 h).2]
 have hk2:qm (m.take k++(x,a)::m.drop (k+1)):=e▸hk;unfold qm at hk2;rw[jq,jL,List.nodup_append] at hk2;obtain ⟨_,h2,h3⟩:=hk2;have hp:∀u∈m.take k,u.1≠x:=λu hu he=>h3 _ (jA hu) _ (by simp) he
 have hq:∀u∈m.drop (k+1),u.1≠x:=λu hu he=>(List.nodup_cons.1 h2).1 (jM.2 ⟨u,hu,he⟩)
 conv=>lhs;rw[e]
 rw[wv hp hq,List.set_eq_take_append_cons_drop,jb hlt]
theorem Qm {ts:List DE}{fs:List (List UInt8×List UInt8×Nat)}(h:ts.map DE.abs=fs)(hk:qm ts):qm fs:=by
 subst h;unfold qm at*;rw[kE];exact hk
theorem K7 (a b:List (List UInt8×List UInt8×Nat)):qT (a++b)=qT a+qT b:=by simp[qT]
theorem ry {d:DK}(hk:qm d.fs)(n bs:List UInt8):qT (wrD d n bs).fs=qT d.fs+bs.length:=by
 show qT (qN d.fs n _)=_
 unfold vU
 rcases wJ d.fs hk n with ⟨p,v,q,e,hp,hq⟩|hno
 ·rw[e,wv hp hq,JJ hp]
  rw[K7,K7]
  simp[qT];omega
 ·rw[vJ hno,wX hno,K7]
  simp[qT]
theorem Yv {α β:Type}(f:α→β){l:List α}{k:Nat}{x y:α}(h:l[k]? =some x)(hf:f x=f y):(l.set k y).map f=l.map f:=by
 apply List.ext_getElem?;intro i;rw[List.map_set,List.getElem?_set]
 by_cases hik:k=i
 ·subst hik
  have:=(jm.1 h).1;rw[jb rfl,jZ,h]
  simp[this,hf]
 ·rw[ja hik]
theorem W5.set {d d':DK}{ts:List DE}(hd:W5 d ts){k:Nat}{n:List UInt8}{ub:Nat}{fv:FV}(hkk:ts[k]? =some (n,ub,fv))(fv':FV)(hl:d'.left=d.left)(hr:d'.room=d.room)(hfs:d'.fs=d.fs.set k (n,fv'.bs,fv'.firm))(hu:(qT d'.fs:Int)≤d'.room)(hfi:fv'.firm≤fv'.bs.length):W5 d' (ts.set k (n,ub,fv')):=by
 refine ⟨?_,?_,by rw[hl];exact hd.lm,by rw[hr];exact hd.rm,hu,by rw[List.length_set];exact hd.few,λu hu=> ?_⟩
 ·rw[hfs,←hd.fs,List.map_set]
 ·have hk2:=hd.key
  unfold qm at*;rw[Yv (·.1) (y:=(n,ub,fv')) hkk rfl];exact hk2
 ·rcases List.mem_or_eq_of_mem_set hu with hu|rfl
  ·exact hd.firm u hu
  ·exact hfi
theorem Qs {p mp:Nat}{d':DK}{ts:List DE}{k:Nat}{n:List UInt8}{ub:Nat}{fv fv':FV}{L:HL}(hkk:ts[k]? =some (n,ub,fv))(hd2:W5 d' (ts.set k (n,ub,fv'))):
  qi (yJ (ub,fv')::xg (ub,fv')::xm (ts.eraseIdx k)::dP p mp d'::dM mp ts::L) (qt p d'::L):=by
 rw[jCY (ts:=ts) (ts':=ts.set k (n,ub,fv')) mp (Yv (λu=>(u.1,u.2.1)) (y:=(n,ub,fv')) hkk rfl).symm];refine qi.trans (jHJ (jm.1 hkk).1 (n,ub,fv')) ?_;exact qi.trans (M:=dP p mp d'::dM mp (ts.set k (n,ub,fv'))::xm (ts.set k (n,ub,fv'))::L) eG (vD hd2)
def wrR (p:Nat)(d:DK)(n bs:List UInt8)(M:OM)(L:HL)(r:Value)(L':HL):Prop:=
 ∃M',qV M M'∧((lz d bs∧r=.int .i64 8∧L'=qt p d::qp M'::L)∨(¬lz d bs∧r=.int .i64 0∧L'=qt p (wrD d n bs)::qp M'::L))
theorem mr (p bp bn bd:Nat)(d:DK)(n:List UInt8)(a:OA)(c:Nat)(vs:List YB)(M:OM)(L:HL)(hn:WA n)(hfew:d.fs.length≤15)(h:qI M a vs.length 1 (vs.flatMap YB.cells))(hv:∀v∈vs,wq M v)(hc:vs.length≤c)(hvl:vs.length≤1000000)(hb:(qX vs).length≤1000000000):
  qh kY 58 [qK bp,qK bn,qK bd] (qt p d::pt bp (cl [.slice a vs.length c] 73)::pt bn (cl [str n] 9)::pt bd (cl [qK p] 24)::qp M::L) (wrR p d n (qX vs) M L):=by
 refine wm λmp ts hd=> ?_
 refine qg Tryz.func58 rfl rfl rfl ?_;refine Q.r ?_;refine S.cr rfl (WZ a c vs M _ _ (qI.rd h) (λv hm=>(hv v hm).rd) hc hvl zo) ?_;rintro _ _ ⟨v,M1,rfl,hvb,hvo,hvc,hl1,rfl⟩;rw[←hvb];refine Q.r ?_;refine S.cr rfl (Yz n _ hn) ?_;rintro _ _ ⟨rfl,rfl⟩;refine Q.r ?_;have hur:=hd.used;have hrm:=hd.rm;have hvl2:v.bs.length≤1000000000:=by rw[hvb];exact hb
 refine Q.dgo [false,true,false,false,true,true,true] [1] [] [0,2,3,5,6,7,8,1,4,9,10] ?_;refine Q.rd2 ?_;refine D.ea rfl rfl rfl ?_;refine S.c3 (A:=dP p mp d) (B:=dM mp ts) (C:=xm ts) rfl (jAL p mp d ts _ hd) ?_;rintro _ _ ⟨rfl,rfl⟩;refine qQ ?_;refine N.tn ?_;refine D.back ?_;refine Q.rd2 ?_
 by_cases hf:lz d v.bs
 ·have hf':d.room<(qT d.fs:Int)+(v.bs.length:Int):=hf
  refine Q.r ?_;refine N.t rfl ?_ ⟨M1,hl1,.inl ⟨hf,rfl,rfl⟩⟩;exact qi.trans (M:=dP p mp d::dM mp ts::xm ts::qp M1::L) eG (vD hd)
 have hf':¬d.room<(qT d.fs:Int)+(v.bs.length:Int):=hf;have hlen:ts.length≤15:=by have:=hd.fs;rw[←this,jf] at hfew;exact hfew
 refine Q.r ?_;refine vh (L':=dP p mp d::dM mp ts::xm ts::pt bp (cl [.slice a vs.length c] 73)::pt bn (cl [str n] 9)::pt bd (cl [qK p] 24)::qp M1::L) eG ?_;refine Q.dgo [true,true,true,true,true,true,true] [] [] [0,1,2,3,4,5,6,7,8,9,10,11,12,13,14,15] ?_;refine Q.rd ?_;refine D.y rfl rfl rfl zk (Y.lk false rfl rfl (λw=>Tryz.zeroValue124 w)) ?_
 cases hz:qE (α:=Nat×FV) ts n with
 |none=>
  dsimp only;refine Q.rd ?_;refine Q.r ?_;refine Q.dgo [true,true,true,true,true,true,true] [] [] [0,1,2,3,4,5,6] ?_;refine Q.rd ?_;refine D.y rfl rfl rfl zk (Y.lk false rfl rfl (λw=>Tryz.zeroValue124 w)) ?_;rw[hz];dsimp only;refine Q.rd ?_;refine Q.r ?_;refine Q.dgo [true,false,true,true,true,true,true] [6,7] [] [0,1,2,3,4,5,6,7] ?_;refine Q.rd ?_;(repeat (intro b1;refine Q.rd ?_));refine D.e rfl rfl rfl ?_;refine S.mu (r:=gE) (u:=(b1,(⟨none,0,[],0⟩:FV))) rfl rfl rfl ?_;refine Q.r ?_;refine Q.rd ?_;have hnk:∀u∈ts,u.1≠n:=λu hu he=>by
   have h1:=hd.key;have h2:qE (α:=Nat×FV) ts n=some u.2:=(vp h1).2 (by rw[←he];exact hu);rw[h2] at hz;cases hz
  rw[vJ hnk];have hkk:(ts++[((n,b1,⟨none,0,[],0⟩):DE)])[ts.length]? =some (n,b1,⟨none,0,[],0⟩):=by simp
  have hd1:W5 {d with fs:=d.fs++[(n,[],0)]} (ts++[((n,b1,⟨none,0,[],0⟩):DE)]):=by
   refine ⟨by rw[jq,hd.fs];rfl,?_,hd.lm,hd.rm,?_,by rw[jc];simp;omega,λu hu=> ?_⟩
   ·have h1:=hd.key
    unfold qm at*;rw[jq,List.nodup_append];refine ⟨h1,by simp,λx hx y hy he=> ?_⟩;obtain ⟨u,hu,rfl⟩:=jM.1 hx
    simp at hy;subst hy;exact hnk u hu he
   ·show (qT (d.fs++[(n,[],0)]):Int)≤d.room
    rw[K7];simpa[qT] using hd.used
   ·rcases jy.1 hu with hu|hu
    ·exact hd.firm u hu
    ·rw[ji.1 hu];exact jz _
  have hz1:qE (α:=Nat×FV) (ts++[((n,b1,⟨none,0,[],0⟩):DE)]) n=some (b1,⟨none,0,[],0⟩):=(vp hd1.key).2 (by simp);refine Q.r ?_;refine vh (L':=xm (ts++[((n,b1,⟨none,0,[],0⟩):DE)])::dP p mp d::dM mp (ts++[((n,b1,⟨none,0,[],0⟩):DE)])::pt bp (cl [.slice a vs.length c] 73)::pt bn (cl [str n] 9)::pt bd (cl [qK p] 24)::qp M1::L) ?_ ?_
  ·exact qi.trans (M:=yJ (b1,(⟨none,0,[],0⟩:FV))::xg (b1,(⟨none,0,[],0⟩:FV))::xm ts::dP p mp d::dM mp (ts++[((n,b1,⟨none,0,[],0⟩):DE)])::pt bp (cl [.slice a vs.length c] 73)::pt bn (cl [str n] 9)::pt bd (cl [qK p] 24)::qp M1::L) eG (jCL ts (n,b1,⟨none,0,[],0⟩))
  generalize hub:b1=ub at*;refine Vu hkk ?_;refine Q.dgo [true,false,false,true,true,true,true,true] [16,19] [19] [0,1,2,3,4,5,6,7,8,9,10,11,12,13,14,15,16,17,18,19] ?_;refine Q.rd2 ?_;refine D.y rfl rfl rfl zk (Y.lk false rfl rfl (λw=>Tryz.zeroValue124 w)) ?_;rw[hz1];dsimp only;refine Q.rd2 ?_;refine D.y rfl rfl rfl zk (Y.lk false rfl rfl (λw=>Tryz.zeroValue124 w)) ?_;rw[hz1];dsimp only;refine Q.rd2 ?_;refine D.e rfl rfl rfl ?_;refine S.app rfl rfl (vG.rd hvo.rd (JR _)) zr (by show (0+v.bs.length)*1≤_;omega) (by show 0+v.bs.length≤_;omega) (λa7 c7=> ?_);refine Q.r ?_;refine Q.rd2 ?_;refine Q.dc rfl rfl rfl rfl ?_;refine Q.r ?_;refine Q.rd2 ?_;refine Q.r ?_;have hwf:(wrD d n v.bs).fs=(d.fs++[(n,[],0)]).set d.fs.length (n,[]++v.bs,0):=by
   show qN d.fs n _=_
   have hl0 : qE d.fs n = none := (Jf hd.fs).2 hz;unfold vU;rw [hl0,vJ (fun u hu he => by
    have h2:qE d.fs n=some u.2:=(vp (Qm hd.fs hd.key)).2 (by rw[←he];exact hu);rw[h2] at hl0;cases hl0)]
   simp
  have hlf:d.fs.length=ts.length:=by rw[←hd.fs,jf]
  rw [hlf] at hwf;have hd2 : W5 (wrD d n v.bs) ((ts ++ [((n,ub,⟨none,0,[],0⟩) : DE)]).set ts.length (n,ub,⟨a7,c7,[] ++ v.bs,0⟩)) := hd1.set hkk _ rfl rfl hwf (by
   rw[ry (Qm hd.fs hd.key)]
   show ((qT d.fs+v.bs.length:Nat):Int)≤d.room
   omega) (jw _)
  refine N.t rfl ?_ ⟨M1,hl1,.inr ⟨hf,rfl,rfl⟩⟩;refine qi.trans (M:=yJ (ub,(⟨a7,c7,[]++v.bs,0⟩:FV))::xg (ub,(⟨a7,c7,[]++v.bs,0⟩:FV))::xm ((ts++[((n,ub,⟨none,0,[],0⟩):DE)]).eraseIdx ts.length)::dP p mp d::dM mp (ts++[((n,ub,⟨none,0,[],0⟩):DE)])::qp M1::L) ?_ (Qs hkk hd2)
  show qi _ (pt ub (cl [.slice a7 ([]++v.bs).length c7,.int .i64 0] 126)::slO 5 1 a7 ([]++v.bs).length c7 (([]++v.bs).map B)::xm _::dP p mp d::dM mp (ts++[((n,ub,⟨none,0,[],0⟩):DE)])::qp M1::L)
  rw[jc,jq];exact eG
 |some u=>
  dsimp only;refine Q.rd ?_;refine Q.r ?_;refine Q.dgo [true,true,true,true,true,true,true] [] [] [0,1,2,3,4,5,6] ?_;refine Q.rd ?_;refine D.y rfl rfl rfl zk (Y.lk false rfl rfl (λw=>Tryz.zeroValue124 w)) ?_;rw[hz];dsimp only;refine Q.rd ?_;refine Q.r ?_;obtain ⟨k,hkk⟩:=YV hz;obtain ⟨ub,ua,uc,ubs,ufirm⟩:=u;have hul:ubs.length≤qT d.fs:=by
   rw[←Kz hd];exact QN (jA (f:=λu:DE=>u.2.2.bs.length) (jn hkk))
  refine Vu hkk ?_;refine Q.dgo [true,false,false,true,true,true,true,true] [16,19] [19] [0,1,2,3,4,5,6,7,8,9,10,11,12,13,14,15,16,17,18,19] ?_;refine Q.rd2 ?_;refine D.y rfl rfl rfl zk (Y.lk false rfl rfl (λw=>Tryz.zeroValue124 w)) ?_;rw[hz];dsimp only;refine Q.rd2 ?_;refine D.y rfl rfl rfl zk (Y.lk false rfl rfl (λw=>Tryz.zeroValue124 w)) ?_;rw[hz];dsimp only;refine Q.rd2 ?_;refine D.e rfl rfl rfl ?_;refine S.app rfl rfl (vG.rd hvo.rd (JR _)) zr (by dsimp only;omega) (by dsimp only;omega) (λa7 c7=> ?_);refine Q.r ?_;refine Q.rd2 ?_;refine Q.dc rfl rfl rfl rfl ?_;refine Q.r ?_;refine Q.rd2 ?_;refine Q.r ?_;have hkf:=Qm hd.fs hd.key;have hfk:d.fs[k]? =some (n,ubs,ufirm):=by rw[←hd.fs,jZ,hkk];rfl
  have hlk:qE d.fs n=some (ubs,ufirm):=by rw[Xl hd.fs,hz];rfl
  have hwf:(wrD d n v.bs).fs=d.fs.set k (n,ubs++v.bs,ufirm):=by
   show qN d.fs n _=_
   unfold vU;rw[hlk];exact du hkf hfk
  have hd2 : W5 (wrD d n v.bs) (ts.set k (n,ub,⟨a7,c7,ubs ++ v.bs,ufirm⟩)) := hd.set hkk _ rfl rfl hwf (by
   rw[ry hkf]
   show ((qT d.fs+v.bs.length:Nat):Int)≤d.room
   omega) (by
   have:=hd.firm _ (jn hkk);dsimp only at this ⊢;rw[jc];omega)
  refine N.t rfl ?_ ⟨M1,hl1,.inr ⟨hf,rfl,rfl⟩⟩;refine qi.trans (M:=yJ (ub,(⟨a7,c7,ubs++v.bs,ufirm⟩:FV))::xg (ub,(⟨a7,c7,ubs++v.bs,ufirm⟩:FV))::xm (ts.eraseIdx k)::dP p mp d::dM mp ts::qp M1::L) ?_ (Qs hkk hd2)
  show qi _ (pt ub (cl [.slice a7 (ubs++v.bs).length c7,.int .i64 ufirm] 126)::slO 5 1 a7 (ubs++v.bs).length c7 ((ubs++v.bs).map B)::xm (ts.eraseIdx k)::dP p mp d::dM mp ts::qp M1::L)
  rw[jc,jq];exact eG
end Go.Proofs.YtlnfjhiphlfkjaaGreatDoor
