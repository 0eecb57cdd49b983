/- DERIVED: THE SHELF's CONTRACTS AT THIS DUMP, IN PLAIN WORDS (tools/lay-plain.mjs out of 'TryzShelf.lean', which tools/lay-shelf.mjs wrote): THE SAME DECLARATIONS UNDER THE SAME NAMES: 'import', 'namespace', 'open', 'def', 'theorem' AND NOTHING ELSE: no command of the shelf's: FOR A HAND-IN. Each laying: the table of numbers ('.._ren') and one theorem, a field a fact of the dump's own or the kernel's comparison; each contract: ONE APPLICATION. -/
import Derived.Shelf.Strings.Trim
import Derived.Shelf.Small.Utf8
import Derived.Shelf.Small.Strs
import Derived.Shelf.Strconv.Itoa0
import Derived.Shelf.Strconv.Itoa1
import Derived.Shelf.LaysM
import Derived.Shelf.Strconv.Itoa2
import Derived.Shelf.Strconv.Itoa3
import Derived.Shelf.Strings.Search1
import Derived.Shelf.Unicode.Decode
import Derived.Shelf.Strings.Runes
import Derived.Shelf.Strings.AsciiSet
import Derived.Shelf.Unicode.DecodeSlow
import Derived.Shelf.Unicode.DecodeAny
import Derived.Shelf.Unicode.DecodeLast
import Derived.Shelf.Slices.Turned
import Derived.Shelf.Slices.Equal
import Derived.Ground.Names2Prog
import Derived.Shelf.Slices.Clone
import Derived.Shelf.Slices.Empties2
import Derived.Ground.SlgnProg
import Derived.Shelf.SlicesE.Clone
import Derived.Test.YtchjijfjidlpjaaGreatDoorProg
set_option linter.unusedSimpArgs false
set_option linter.unusedVariables false
namespace Go.Proofs
open Go.Shelf
def Tryz.T6:Go.Shelf.Ren:=⟨fun|160=>141|232=>159|231=>158|227=>160|234=>162|233=>161|236=>164|235=>163|228=>185|271=>188|151=>187|197=>186|120=>204|152=>203|260=>202|137=>210|119=>211|224=>212|225=>213|217=>219|266=>222|n=>n,fun|9=>9|4=>4|3=>3|5=>5|117=>231|116=>230|0=>0|124=>234|21=>21|105=>257|46=>185|119=>277|139=>280|138=>279|n=>n,fun|3=>2|4=>3|n=>n⟩
theorem Tryz.ZN:Go.Proofs.Lays.n160 Tryz.prog Tryz.T6:={
 mixed:=by kernel_rfl
 f119:=Tryz.func211.trans (congrArg some (by kernel_rfl))
 f120:=Tryz.func204.trans (congrArg some (by kernel_rfl))
 f137:=Tryz.func210.trans (congrArg some (by kernel_rfl))
 f151:=Tryz.func187.trans (congrArg some (by kernel_rfl))
 f152:=Tryz.func203.trans (congrArg some (by kernel_rfl))
 f160:=Tryz.func141.trans (congrArg some (by kernel_rfl))
 f197:=Tryz.func186.trans (congrArg some (by kernel_rfl))
 f217:=Tryz.func219.trans (congrArg some (by kernel_rfl))
 f224:=Tryz.func212.trans (congrArg some (by kernel_rfl))
 f225:=Tryz.func213.trans (congrArg some (by kernel_rfl))
 f227:=Tryz.func160.trans (congrArg some (by kernel_rfl))
 f228:=Tryz.func185.trans (congrArg some (by kernel_rfl))
 f231:=Tryz.func158.trans (congrArg some (by kernel_rfl))
 f232:=Tryz.func159.trans (congrArg some (by kernel_rfl))
 f233:=Tryz.func161.trans (congrArg some (by kernel_rfl))
 f234:=Tryz.func162.trans (congrArg some (by kernel_rfl))
 f235:=Tryz.func163.trans (congrArg some (by kernel_rfl))
 f236:=Tryz.func164.trans (congrArg some (by kernel_rfl))
 f260:=Tryz.func202.trans (congrArg some (by kernel_rfl))
 f266:=Tryz.func222.trans (congrArg some (by kernel_rfl))
 f271:=Tryz.func188.trans (congrArg some (by kernel_rfl))
 t0:=Tryz.underlying0
 a0:=Tryz.isAgg0
 z0:=Tryz.sizeOf0
 v0:=Tryz.zeroValue0
 t3:=Tryz.underlying3
 a3:=Tryz.isAgg3
 z3:=Tryz.sizeOf3
 v3:=Tryz.zeroValue3
 t4:=Tryz.underlying4
 a4:=Tryz.isAgg4
 z4:=Tryz.sizeOf4
 v4:=Tryz.zeroValue4
 t5:=Tryz.underlying5
 a5:=Tryz.isAgg5
 z5:=Tryz.sizeOf5
 v5:=Tryz.zeroValue5
 t9:=Tryz.underlying9
 a9:=Tryz.isAgg9
 z9:=Tryz.sizeOf9
 v9:=Tryz.zeroValue9
 t21:=Tryz.underlying21
 a21:=Tryz.isAgg21
 z21:=Tryz.sizeOf21
 v21:=Tryz.zeroValue21
 t46:=Tryz.underlying185
 a46:=Tryz.isAgg185
 z46:=Tryz.sizeOf185
 v46:=Tryz.zeroValue185
 t105:=Tryz.underlying257
 a105:=Tryz.isAgg257
 z105:=Tryz.sizeOf257
 v105:=Tryz.zeroValue257
 t116:=Tryz.underlying230
 a116:=Tryz.isAgg230
 z116:=Tryz.sizeOf230
 t117:=Tryz.underlying231
 a117:=Tryz.isAgg231
 z117:=Tryz.sizeOf231
 v117:=Tryz.zeroValue231
 t119:=Tryz.underlying277
 a119:=Tryz.isAgg277
 z119:=Tryz.sizeOf277
 t124:=Tryz.underlying234
 a124:=Tryz.isAgg234
 z124:=Tryz.sizeOf234
 v124:=Tryz.zeroValue234
 t138:=Tryz.underlying279
 a138:=Tryz.isAgg279
 z138:=Tryz.sizeOf279
 v138:=Tryz.zeroValue279
 t139:=Tryz.underlying280
 a139:=Tryz.isAgg280
 z139:=Tryz.sizeOf280
 v139:=Tryz.zeroValue280
 g3:=by kernel_rfl
 g4:=by kernel_rfl}
def Tryz.Th:Go.Shelf.Ren:=⟨fun|171=>149|243=>181|246=>201|283=>206|284=>207|285=>208|286=>209|129=>215|317=>214|318=>216|319=>217|320=>218|337=>220|338=>221|n=>n,fun|3=>3|9=>9|2=>2|4=>4|171=>271|0=>0|53=>272|37=>221|5=>5|173=>275|212=>284|51=>285|20=>20|213=>286|46=>185|232=>289|233=>290|n=>n,fun|17=>4|18=>6|19=>7|n=>n⟩
theorem Tryz.Ys:Go.Proofs.LaysM.n171 Tryz.prog Tryz.Th:={
 mixed:=by kernel_rfl
 f129:=Tryz.func215.trans (congrArg some (by kernel_rfl))
 f171:=Tryz.func149.trans (congrArg some (by kernel_rfl))
 f243:=Tryz.func181.trans (congrArg some (by kernel_rfl))
 f246:=Tryz.func201.trans (congrArg some (by kernel_rfl))
 f283:=Tryz.func206.trans (congrArg some (by kernel_rfl))
 f284:=Tryz.func207.trans (congrArg some (by kernel_rfl))
 f285:=Tryz.func208.trans (congrArg some (by kernel_rfl))
 f286:=Tryz.func209.trans (congrArg some (by kernel_rfl))
 f317:=Tryz.func214.trans (congrArg some (by kernel_rfl))
 f318:=Tryz.func216.trans (congrArg some (by kernel_rfl))
 f319:=Tryz.func217.trans (congrArg some (by kernel_rfl))
 f320:=Tryz.func218.trans (congrArg some (by kernel_rfl))
 f337:=Tryz.func220.trans (congrArg some (by kernel_rfl))
 f338:=Tryz.func221.trans (congrArg some (by kernel_rfl))
 t0:=Tryz.underlying0
 a0:=Tryz.isAgg0
 z0:=Tryz.sizeOf0
 v0:=Tryz.zeroValue0
 t2:=Tryz.underlying2
 a2:=Tryz.isAgg2
 z2:=Tryz.sizeOf2
 v2:=Tryz.zeroValue2
 t3:=Tryz.underlying3
 a3:=Tryz.isAgg3
 z3:=Tryz.sizeOf3
 v3:=Tryz.zeroValue3
 t4:=Tryz.underlying4
 a4:=Tryz.isAgg4
 z4:=Tryz.sizeOf4
 v4:=Tryz.zeroValue4
 t5:=Tryz.underlying5
 a5:=Tryz.isAgg5
 z5:=Tryz.sizeOf5
 v5:=Tryz.zeroValue5
 t9:=Tryz.underlying9
 a9:=Tryz.isAgg9
 z9:=Tryz.sizeOf9
 v9:=Tryz.zeroValue9
 t20:=Tryz.underlying20
 a20:=Tryz.isAgg20
 z20:=Tryz.sizeOf20
 v20:=Tryz.zeroValue20
 t37:=Tryz.underlying221
 a37:=Tryz.isAgg221
 z37:=Tryz.sizeOf221
 v37:=Tryz.zeroValue221
 t46:=Tryz.underlying185
 a46:=Tryz.isAgg185
 z46:=Tryz.sizeOf185
 v46:=Tryz.zeroValue185
 t51:=Tryz.underlying285
 a51:=Tryz.isAgg285
 z51:=Tryz.sizeOf285
 v51:=Tryz.zeroValue285
 t53:=Tryz.underlying272
 a53:=Tryz.isAgg272
 z53:=Tryz.sizeOf272
 v53:=Tryz.zeroValue272
 t171:=Tryz.underlying271
 a171:=Tryz.isAgg271
 z171:=Tryz.sizeOf271
 v171:=Tryz.zeroValue271
 t173:=Tryz.underlying275
 a173:=Tryz.isAgg275
 z173:=Tryz.sizeOf275
 v173:=Tryz.zeroValue275
 t212:=Tryz.underlying284
 a212:=Tryz.isAgg284
 z212:=Tryz.sizeOf284
 v212:=Tryz.zeroValue284
 t213:=Tryz.underlying286
 a213:=Tryz.isAgg286
 z213:=Tryz.sizeOf286
 t232:=Tryz.underlying289
 a232:=Tryz.isAgg289
 z232:=Tryz.sizeOf289
 v232:=Tryz.zeroValue289
 t233:=Tryz.underlying290
 a233:=Tryz.isAgg290
 z233:=Tryz.sizeOf290
 v233:=Tryz.zeroValue290
 g17:=by kernel_rfl
 g18:=by kernel_rfl
 g19:=by kernel_rfl
 i0:=by kernel_rfl
 i2:=by kernel_rfl
 i3:=by kernel_rfl
 i4:=by kernel_rfl
 i5:=by kernel_rfl
 i9:=by kernel_rfl
 i20:=by kernel_rfl
 i37:=by kernel_rfl
 i46:=by kernel_rfl
 i51:=by kernel_rfl
 i53:=by kernel_rfl
 i171:=by kernel_rfl
 i173:=by kernel_rfl
 i212:=by kernel_rfl
 i232:=by kernel_rfl
 i233:=by kernel_rfl
 m17:=by kernel_rfl
 m18:=by kernel_rfl
 m19:=by kernel_rfl}
open Go.RowKit Go.Sort Go.Lib in
theorem Tryz.strconv_Itoa(n:Int)(h0:-9223372036854775808<=n)(h1:n<=9223372036854775807)(w:World)(htab:Lib.TabIs Tryz.prog w "internal/strconv.uint64pow10" .u64 Lib.pow10Tab):
 Calls Tryz.prog 149 #[.int .i64 n] w fun e w'=>e=.returned (.string ⟨(Lib.itoa n).toArray⟩)/\∃k os,w'=grow (w.drewN k) os:=Any.strconv_Itoa Tryz.Ys n h0 h1 w htab
end Go.Proofs
