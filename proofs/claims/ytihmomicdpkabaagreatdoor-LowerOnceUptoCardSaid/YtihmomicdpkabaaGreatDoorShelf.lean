/- DERIVED: THE SHELF's CONTRACTS AT THIS DUMP, IN PLAIN WORDS (tools/lay-plain.mjs out of 'TryzShelf.lean', which tools/lay-shelf.mjs wrote): THE SAME DECLARATIONS UNDER THE SAME NAMES: 'import', 'namespace', 'open', 'def', 'theorem' AND NOTHING ELSE: no command of the shelf's: FOR A HAND-IN. Each laying: the table of numbers ('.._ren') and one theorem, a field a fact of the dump's own or the kernel's comparison; each contract: ONE APPLICATION. -/
import Derived.Shelf.Strings.Trim
import Derived.Shelf.Small.Utf8
import Derived.Shelf.Small.Strs
import Derived.Shelf.Strings.Search1
import Derived.Shelf.Unicode.Decode
import Derived.Shelf.Strings.Runes
import Derived.Shelf.Strings.AsciiSet
import Derived.Shelf.Unicode.DecodeSlow
import Derived.Shelf.Unicode.DecodeAny
import Derived.Shelf.Unicode.DecodeLast
import Derived.Shelf.Slices.Turned
import Derived.Shelf.Slices.Equal
import Derived.Ground.Names2Prog
import Derived.Shelf.Slices.Clone
import Derived.Shelf.Slices.Empties2
import Derived.Ground.SlgnProg
import Derived.Shelf.SlicesE.Clone
import Derived.Test.YtihmomicdpkabaaGreatDoorProg
set_option linter.unusedSimpArgs false
set_option linter.unusedVariables false
namespace Go.Proofs
open Go.Shelf
def Tryz.Vp:Go.Shelf.Ren:=⟨fun|160=>91|232=>114|231=>113|227=>115|234=>117|233=>116|236=>119|235=>118|228=>141|271=>144|151=>143|197=>142|120=>160|152=>159|260=>158|137=>162|119=>163|224=>164|225=>165|217=>166|266=>167|n=>n,fun|9=>9|4=>4|3=>3|5=>5|117=>189|116=>188|0=>0|124=>192|21=>21|105=>221|46=>87|119=>236|139=>239|138=>238|n=>n,fun|3=>2|4=>3|n=>n⟩
theorem Tryz.MB:Go.Proofs.Lays.n160 Tryz.prog Tryz.Vp:={
 mixed:=by kernel_rfl
 f119:=Tryz.func163.trans (congrArg some (by kernel_rfl))
 f120:=Tryz.func160.trans (congrArg some (by kernel_rfl))
 f137:=Tryz.func162.trans (congrArg some (by kernel_rfl))
 f151:=Tryz.func143.trans (congrArg some (by kernel_rfl))
 f152:=Tryz.func159.trans (congrArg some (by kernel_rfl))
 f160:=Tryz.func91.trans (congrArg some (by kernel_rfl))
 f197:=Tryz.func142.trans (congrArg some (by kernel_rfl))
 f217:=Tryz.func166.trans (congrArg some (by kernel_rfl))
 f224:=Tryz.func164.trans (congrArg some (by kernel_rfl))
 f225:=Tryz.func165.trans (congrArg some (by kernel_rfl))
 f227:=Tryz.func115.trans (congrArg some (by kernel_rfl))
 f228:=Tryz.func141.trans (congrArg some (by kernel_rfl))
 f231:=Tryz.func113.trans (congrArg some (by kernel_rfl))
 f232:=Tryz.func114.trans (congrArg some (by kernel_rfl))
 f233:=Tryz.func116.trans (congrArg some (by kernel_rfl))
 f234:=Tryz.func117.trans (congrArg some (by kernel_rfl))
 f235:=Tryz.func118.trans (congrArg some (by kernel_rfl))
 f236:=Tryz.func119.trans (congrArg some (by kernel_rfl))
 f260:=Tryz.func158.trans (congrArg some (by kernel_rfl))
 f266:=Tryz.func167.trans (congrArg some (by kernel_rfl))
 f271:=Tryz.func144.trans (congrArg some (by kernel_rfl))
 t0:=Tryz.underlying0
 a0:=Tryz.isAgg0
 z0:=Tryz.sizeOf0
 v0:=Tryz.zeroValue0
 t3:=Tryz.underlying3
 a3:=Tryz.isAgg3
 z3:=Tryz.sizeOf3
 v3:=Tryz.zeroValue3
 t4:=Tryz.underlying4
 a4:=Tryz.isAgg4
 z4:=Tryz.sizeOf4
 v4:=Tryz.zeroValue4
 t5:=Tryz.underlying5
 a5:=Tryz.isAgg5
 z5:=Tryz.sizeOf5
 v5:=Tryz.zeroValue5
 t9:=Tryz.underlying9
 a9:=Tryz.isAgg9
 z9:=Tryz.sizeOf9
 v9:=Tryz.zeroValue9
 t21:=Tryz.underlying21
 a21:=Tryz.isAgg21
 z21:=Tryz.sizeOf21
 v21:=Tryz.zeroValue21
 t46:=Tryz.underlying87
 a46:=Tryz.isAgg87
 z46:=Tryz.sizeOf87
 v46:=Tryz.zeroValue87
 t105:=Tryz.underlying221
 a105:=Tryz.isAgg221
 z105:=Tryz.sizeOf221
 v105:=Tryz.zeroValue221
 t116:=Tryz.underlying188
 a116:=Tryz.isAgg188
 z116:=Tryz.sizeOf188
 t117:=Tryz.underlying189
 a117:=Tryz.isAgg189
 z117:=Tryz.sizeOf189
 v117:=Tryz.zeroValue189
 t119:=Tryz.underlying236
 a119:=Tryz.isAgg236
 z119:=Tryz.sizeOf236
 t124:=Tryz.underlying192
 a124:=Tryz.isAgg192
 z124:=Tryz.sizeOf192
 v124:=Tryz.zeroValue192
 t138:=Tryz.underlying238
 a138:=Tryz.isAgg238
 z138:=Tryz.sizeOf238
 v138:=Tryz.zeroValue238
 t139:=Tryz.underlying239
 a139:=Tryz.isAgg239
 z139:=Tryz.sizeOf239
 v139:=Tryz.zeroValue239
 g3:=by kernel_rfl
 g4:=by kernel_rfl}
end Go.Proofs
