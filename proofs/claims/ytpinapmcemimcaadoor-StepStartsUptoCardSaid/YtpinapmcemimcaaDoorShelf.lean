/- DERIVED: THE SHELF's CONTRACTS AT THIS DUMP, IN PLAIN WORDS (tools/lay-plain.mjs out of 'TrydShelf.lean', which tools/lay-shelf.mjs wrote): THE SAME DECLARATIONS UNDER THE SAME NAMES: 'import', 'namespace', 'open', 'def', 'theorem' AND NOTHING ELSE: no command of the shelf's: FOR A HAND-IN. Each laying: the table of numbers ('.._ren') and one theorem, a field a fact of the dump's own or the kernel's comparison; each contract: ONE APPLICATION. -/
import Derived.Shelf.Strings.Trim
import Derived.Shelf.Small.Utf8
import Derived.Shelf.Small.Strs
import Derived.Shelf.Strings.Search1
import Derived.Shelf.Unicode.Decode
import Derived.Shelf.Strings.Runes
import Derived.Shelf.Strings.AsciiSet
import Derived.Shelf.Unicode.DecodeSlow
import Derived.Shelf.Unicode.DecodeAny
import Derived.Shelf.Unicode.DecodeLast
import Derived.Ground.Names2Prog
import Derived.Shelf.Slices.Clone
import Derived.Ground.SlgnProg
import Derived.Shelf.SlicesE.Clone
import Derived.Test.YtpinapmcemimcaaDoorProg
set_option linter.unusedSimpArgs false
set_option linter.unusedVariables false
namespace Go.Proofs
open Go.Shelf
def Tryd.lays160_ren:Go.Shelf.Ren:=⟨fun | 160=>48 | 232=>64 | 231=>63 | 227=>65 | 234=>67 | 233=>66 | 236=>69 | 235=>68 | 228=>75 | 271=>78 | 151=>77 | 197=>76 | 120=>84 | 152=>83 | 260=>82 | 137=>86 | 119=>87 | 224=>88 | 225=>89 | 217=>90 | 266=>91 | n=>n,fun | 9=>9 | 4=>4 | 3=>3 | 5=>5 | 117=>116 | 116=>115 | 0=>0 | 124=>119 | 21=>21 | 105=>131 | 46=>142 | 119=>141 | 139=>145 | 138=>144 | n=>n,fun | 3=>1 | 4=>2 | n=>n⟩
theorem Tryd.lays160:Go.Proofs.Lays.n160 Tryd.prog Tryd.lays160_ren:={
 mixed:=by kernel_rfl
 f119:=Tryd.func87.trans (congrArg some (by kernel_rfl))
 f120:=Tryd.func84.trans (congrArg some (by kernel_rfl))
 f137:=Tryd.func86.trans (congrArg some (by kernel_rfl))
 f151:=Tryd.func77.trans (congrArg some (by kernel_rfl))
 f152:=Tryd.func83.trans (congrArg some (by kernel_rfl))
 f160:=Tryd.func48.trans (congrArg some (by kernel_rfl))
 f197:=Tryd.func76.trans (congrArg some (by kernel_rfl))
 f217:=Tryd.func90.trans (congrArg some (by kernel_rfl))
 f224:=Tryd.func88.trans (congrArg some (by kernel_rfl))
 f225:=Tryd.func89.trans (congrArg some (by kernel_rfl))
 f227:=Tryd.func65.trans (congrArg some (by kernel_rfl))
 f228:=Tryd.func75.trans (congrArg some (by kernel_rfl))
 f231:=Tryd.func63.trans (congrArg some (by kernel_rfl))
 f232:=Tryd.func64.trans (congrArg some (by kernel_rfl))
 f233:=Tryd.func66.trans (congrArg some (by kernel_rfl))
 f234:=Tryd.func67.trans (congrArg some (by kernel_rfl))
 f235:=Tryd.func68.trans (congrArg some (by kernel_rfl))
 f236:=Tryd.func69.trans (congrArg some (by kernel_rfl))
 f260:=Tryd.func82.trans (congrArg some (by kernel_rfl))
 f266:=Tryd.func91.trans (congrArg some (by kernel_rfl))
 f271:=Tryd.func78.trans (congrArg some (by kernel_rfl))
 t0:=Tryd.underlying0
 a0:=Tryd.isAgg0
 z0:=Tryd.sizeOf0
 v0:=Tryd.zeroValue0
 t3:=Tryd.underlying3
 a3:=Tryd.isAgg3
 z3:=Tryd.sizeOf3
 v3:=Tryd.zeroValue3
 t4:=Tryd.underlying4
 a4:=Tryd.isAgg4
 z4:=Tryd.sizeOf4
 v4:=Tryd.zeroValue4
 t5:=Tryd.underlying5
 a5:=Tryd.isAgg5
 z5:=Tryd.sizeOf5
 v5:=Tryd.zeroValue5
 t9:=Tryd.underlying9
 a9:=Tryd.isAgg9
 z9:=Tryd.sizeOf9
 v9:=Tryd.zeroValue9
 t21:=Tryd.underlying21
 a21:=Tryd.isAgg21
 z21:=Tryd.sizeOf21
 v21:=Tryd.zeroValue21
 t46:=Tryd.underlying142
 a46:=Tryd.isAgg142
 z46:=Tryd.sizeOf142
 v46:=Tryd.zeroValue142
 t105:=Tryd.underlying131
 a105:=Tryd.isAgg131
 z105:=Tryd.sizeOf131
 v105:=Tryd.zeroValue131
 t116:=Tryd.underlying115
 a116:=Tryd.isAgg115
 z116:=Tryd.sizeOf115
 t117:=Tryd.underlying116
 a117:=Tryd.isAgg116
 z117:=Tryd.sizeOf116
 v117:=Tryd.zeroValue116
 t119:=Tryd.underlying141
 a119:=Tryd.isAgg141
 z119:=Tryd.sizeOf141
 t124:=Tryd.underlying119
 a124:=Tryd.isAgg119
 z124:=Tryd.sizeOf119
 v124:=Tryd.zeroValue119
 t138:=Tryd.underlying144
 a138:=Tryd.isAgg144
 z138:=Tryd.sizeOf144
 v138:=Tryd.zeroValue144
 t139:=Tryd.underlying145
 a139:=Tryd.isAgg145
 z139:=Tryd.sizeOf145
 v139:=Tryd.zeroValue145
 g3:=by kernel_rfl
 g4:=by kernel_rfl }
end Go.Proofs
