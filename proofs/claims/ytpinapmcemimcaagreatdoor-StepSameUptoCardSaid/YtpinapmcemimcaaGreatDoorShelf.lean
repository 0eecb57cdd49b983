/- DERIVED: THE SHELF's CONTRACTS AT THIS DUMP, IN PLAIN WORDS (tools/lay-plain.mjs out of 'TryzShelf.lean', which tools/lay-shelf.mjs wrote): THE SAME DECLARATIONS UNDER THE SAME NAMES: 'import', 'namespace', 'open', 'def', 'theorem' AND NOTHING ELSE: no command of the shelf's: FOR A HAND-IN. Each laying: the table of numbers ('.._ren') and one theorem, a field a fact of the dump's own or the kernel's comparison; each contract: ONE APPLICATION. -/
import Derived.Shelf.Strings.Builder1
import Derived.Shelf.Strings.Builder2
import Derived.Shelf.Strings.Trim
import Derived.Shelf.Small.Utf8
import Derived.Shelf.Small.Strs
import Derived.Shelf.Strings.BuilderF
import Derived.Shelf.Strings.Search1
import Derived.Shelf.Strings.Prefix
import Derived.Shelf.Unicode.Decode
import Derived.Shelf.Strings.Runes
import Derived.Shelf.Strings.AsciiSet
import Derived.Shelf.Bits.Mul64
import Derived.Shelf.Strings.Repeat
import Derived.Shelf.Unicode.DecodeSlow
import Derived.Shelf.Unicode.DecodeAny
import Derived.Shelf.Unicode.DecodeLast
import Derived.Shelf.Slices.Turned
import Derived.Shelf.Slices.Equal
import Derived.Ground.Names2Prog
import Derived.Shelf.Slices.Clone
import Derived.Shelf.Slices.Empties2
import Derived.Ground.SlgnProg
import Derived.Shelf.SlicesE.Clone
import Derived.Test.YtpinapmcemimcaaGreatDoorProg
set_option linter.unusedSimpArgs false
set_option linter.unusedVariables false
namespace Go.Proofs
open Go.Shelf
def Tryz.lays160_ren:Go.Shelf.Ren:=⟨fun | 160=>80 | 232=>102 | 231=>101 | 227=>103 | 234=>105 | 233=>104 | 236=>107 | 235=>106 | 228=>129 | 271=>132 | 151=>131 | 197=>130 | 120=>142 | 152=>141 | 260=>140 | 137=>144 | 119=>145 | 224=>146 | 225=>147 | 217=>148 | 266=>149 | n=>n,fun | 9=>9 | 4=>4 | 3=>3 | 5=>5 | 117=>141 | 116=>140 | 0=>0 | 124=>144 | 21=>21 | 105=>171 | 46=>110 | 119=>191 | 139=>194 | 138=>193 | n=>n,fun | 3=>2 | 4=>3 | n=>n⟩
theorem Tryz.lays160:Go.Proofs.Lays.n160 Tryz.prog Tryz.lays160_ren:={
 mixed:=by kernel_rfl
 f119:=Tryz.func145.trans (congrArg some (by kernel_rfl))
 f120:=Tryz.func142.trans (congrArg some (by kernel_rfl))
 f137:=Tryz.func144.trans (congrArg some (by kernel_rfl))
 f151:=Tryz.func131.trans (congrArg some (by kernel_rfl))
 f152:=Tryz.func141.trans (congrArg some (by kernel_rfl))
 f160:=Tryz.func80.trans (congrArg some (by kernel_rfl))
 f197:=Tryz.func130.trans (congrArg some (by kernel_rfl))
 f217:=Tryz.func148.trans (congrArg some (by kernel_rfl))
 f224:=Tryz.func146.trans (congrArg some (by kernel_rfl))
 f225:=Tryz.func147.trans (congrArg some (by kernel_rfl))
 f227:=Tryz.func103.trans (congrArg some (by kernel_rfl))
 f228:=Tryz.func129.trans (congrArg some (by kernel_rfl))
 f231:=Tryz.func101.trans (congrArg some (by kernel_rfl))
 f232:=Tryz.func102.trans (congrArg some (by kernel_rfl))
 f233:=Tryz.func104.trans (congrArg some (by kernel_rfl))
 f234:=Tryz.func105.trans (congrArg some (by kernel_rfl))
 f235:=Tryz.func106.trans (congrArg some (by kernel_rfl))
 f236:=Tryz.func107.trans (congrArg some (by kernel_rfl))
 f260:=Tryz.func140.trans (congrArg some (by kernel_rfl))
 f266:=Tryz.func149.trans (congrArg some (by kernel_rfl))
 f271:=Tryz.func132.trans (congrArg some (by kernel_rfl))
 t0:=Tryz.underlying0
 a0:=Tryz.isAgg0
 z0:=Tryz.sizeOf0
 v0:=Tryz.zeroValue0
 t3:=Tryz.underlying3
 a3:=Tryz.isAgg3
 z3:=Tryz.sizeOf3
 v3:=Tryz.zeroValue3
 t4:=Tryz.underlying4
 a4:=Tryz.isAgg4
 z4:=Tryz.sizeOf4
 v4:=Tryz.zeroValue4
 t5:=Tryz.underlying5
 a5:=Tryz.isAgg5
 z5:=Tryz.sizeOf5
 v5:=Tryz.zeroValue5
 t9:=Tryz.underlying9
 a9:=Tryz.isAgg9
 z9:=Tryz.sizeOf9
 v9:=Tryz.zeroValue9
 t21:=Tryz.underlying21
 a21:=Tryz.isAgg21
 z21:=Tryz.sizeOf21
 v21:=Tryz.zeroValue21
 t46:=Tryz.underlying110
 a46:=Tryz.isAgg110
 z46:=Tryz.sizeOf110
 v46:=Tryz.zeroValue110
 t105:=Tryz.underlying171
 a105:=Tryz.isAgg171
 z105:=Tryz.sizeOf171
 v105:=Tryz.zeroValue171
 t116:=Tryz.underlying140
 a116:=Tryz.isAgg140
 z116:=Tryz.sizeOf140
 t117:=Tryz.underlying141
 a117:=Tryz.isAgg141
 z117:=Tryz.sizeOf141
 v117:=Tryz.zeroValue141
 t119:=Tryz.underlying191
 a119:=Tryz.isAgg191
 z119:=Tryz.sizeOf191
 t124:=Tryz.underlying144
 a124:=Tryz.isAgg144
 z124:=Tryz.sizeOf144
 v124:=Tryz.zeroValue144
 t138:=Tryz.underlying193
 a138:=Tryz.isAgg193
 z138:=Tryz.sizeOf193
 v138:=Tryz.zeroValue193
 t139:=Tryz.underlying194
 a139:=Tryz.isAgg194
 z139:=Tryz.sizeOf194
 v139:=Tryz.zeroValue194
 g3:=by kernel_rfl
 g4:=by kernel_rfl }
end Go.Proofs
