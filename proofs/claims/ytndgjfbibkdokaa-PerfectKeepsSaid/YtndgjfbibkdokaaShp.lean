/-
  DERIVED: THE SHELF's CONTRACTS AT THIS DUMP, IN PLAIN WORDS (tools/lay-plain.mjs out of 'YtndgjfbibkdokaaShelf.lean', which tools/lay-shelf.mjs wrote): THE SAME DECLARATIONS UNDER THE SAME NAMES: 'import', 'namespace', 'open', 'def', 'theorem' AND NOTHING ELSE: no command of the shelf's: FOR A HAND-IN. Each laying: the table of numbers ('.._ren') and one theorem, a field a fact of the dump's own or the kernel's comparison; each contract: ONE APPLICATION.
-/
import Derived.Test.YtndgjfbibkdokaaProg
import Derived.Shelf.Sort.Plain
import Derived.Shelf.Slices.In.SortNone
namespace Go.Proofs
open Go.Shelf
def Try.lays189_ren:Go.Shelf.Ren:=⟨fun | 189=>32 | 125=>65 | 257=>64 | 128=>90 | 129=>91 | 294=>81 | 295=>82 | 296=>83 | 297=>84 | 298=>85 | 299=>86 | 216=>87 | 300=>88 | 301=>89 | 328=>102 | 329=>103 | 330=>104 | 331=>105 | 332=>106 | 215=>107 | 343=>112 | n=>n,fun | 28=>26 | 3=>3 | 46=>123 | 0=>0 | 51=>149 | 53=>151 | 4=>4 | 183=>141 | 182=>140 | 131=>146 | 5=>5 | 9=>9 | 218=>160 | 222=>164 | 228=>167 | 229=>34 | n=>n,fun | n=>n⟩
theorem Try.lays189:Go.Proofs.Lays.n189 Try.prog Try.lays189_ren:={
  mixed:=by kernel_rfl
  f125:=Try.func65.trans (congrArg some (by kernel_rfl))
  f128:=Try.func90.trans (congrArg some (by kernel_rfl))
  f129:=Try.func91.trans (congrArg some (by kernel_rfl))
  f189:=Try.func32.trans (congrArg some (by kernel_rfl))
  f215:=Try.func107.trans (congrArg some (by kernel_rfl))
  f216:=Try.func87.trans (congrArg some (by kernel_rfl))
  f257:=Try.func64.trans (congrArg some (by kernel_rfl))
  f294:=Try.func81.trans (congrArg some (by kernel_rfl))
  f295:=Try.func82.trans (congrArg some (by kernel_rfl))
  f296:=Try.func83.trans (congrArg some (by kernel_rfl))
  f297:=Try.func84.trans (congrArg some (by kernel_rfl))
  f298:=Try.func85.trans (congrArg some (by kernel_rfl))
  f299:=Try.func86.trans (congrArg some (by kernel_rfl))
  f300:=Try.func88.trans (congrArg some (by kernel_rfl))
  f301:=Try.func89.trans (congrArg some (by kernel_rfl))
  f328:=Try.func102.trans (congrArg some (by kernel_rfl))
  f329:=Try.func103.trans (congrArg some (by kernel_rfl))
  f330:=Try.func104.trans (congrArg some (by kernel_rfl))
  f331:=Try.func105.trans (congrArg some (by kernel_rfl))
  f332:=Try.func106.trans (congrArg some (by kernel_rfl))
  f343:=Try.func112.trans (congrArg some (by kernel_rfl))
  t0:=Try.underlying0
  a0:=Try.isAgg0
  z0:=Try.sizeOf0
  v0:=Try.zeroValue0
  t3:=Try.underlying3
  a3:=Try.isAgg3
  z3:=Try.sizeOf3
  v3:=Try.zeroValue3
  t4:=Try.underlying4
  a4:=Try.isAgg4
  z4:=Try.sizeOf4
  v4:=Try.zeroValue4
  t5:=Try.underlying5
  a5:=Try.isAgg5
  z5:=Try.sizeOf5
  v5:=Try.zeroValue5
  t9:=Try.underlying9
  a9:=Try.isAgg9
  z9:=Try.sizeOf9
  v9:=Try.zeroValue9
  t28:=Try.underlying26
  a28:=Try.isAgg26
  z28:=Try.sizeOf26
  v28:=Try.zeroValue26
  t46:=Try.underlying123
  a46:=Try.isAgg123
  z46:=Try.sizeOf123
  v46:=Try.zeroValue123
  t51:=Try.underlying149
  a51:=Try.isAgg149
  z51:=Try.sizeOf149
  v51:=Try.zeroValue149
  t53:=Try.underlying151
  a53:=Try.isAgg151
  z53:=Try.sizeOf151
  v53:=Try.zeroValue151
  t131:=Try.underlying146
  a131:=Try.isAgg146
  z131:=Try.sizeOf146
  v131:=Try.zeroValue146
  t182:=Try.underlying140
  a182:=Try.isAgg140
  z182:=Try.sizeOf140
  v182:=Try.zeroValue140
  t183:=Try.underlying141
  a183:=Try.isAgg141
  z183:=Try.sizeOf141
  v183:=Try.zeroValue141
  t218:=Try.underlying160
  a218:=Try.isAgg160
  z218:=Try.sizeOf160
  v218:=Try.zeroValue160
  t222:=Try.underlying164
  a222:=Try.isAgg164
  z222:=Try.sizeOf164
  v222:=Try.zeroValue164
  t228:=Try.underlying167
  a228:=Try.isAgg167
  z228:=Try.sizeOf167
  v228:=Try.zeroValue167
  t229:=Try.underlying34
  a229:=Try.isAgg34
  z229:=Try.sizeOf34
  v229:=Try.zeroValue34 }
end Go.Proofs
