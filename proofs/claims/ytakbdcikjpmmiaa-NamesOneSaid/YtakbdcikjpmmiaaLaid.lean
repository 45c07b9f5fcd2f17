/-
  DERIVED: THE SHELF's CONTRACTS AT THIS DUMP, IN PLAIN WORDS (tools/lay-plain.mjs out of 'YtakbdcikjpmmiaaShelf.lean', which tools/lay-shelf.mjs wrote): THE SAME DECLARATIONS UNDER THE SAME NAMES: 'import', 'namespace', 'open', 'def', 'theorem' AND NOTHING ELSE: no command of the shelf's: FOR A HAND-IN. Each laying: the table of numbers ('.._ren') and one theorem, a field a fact of the dump's own or the kernel's comparison; each contract: ONE APPLICATION.
-/
import Derived.Test.YtakbdcikjpmmiaaProg
import Derived.Ground.NamesProg
import Derived.Shelf.Sort.Plain
namespace Go.Proofs
open Go.Shelf
def Try.laysSort_ren : Go.Shelf.Ren := ⟨fun | 190 => 19 | 125 => 22 | 258 => 21 | 128 => 32 | 129 => 33 | 302 => 23 | 303 => 24 | 304 => 25 | 305 => 26 | 306 => 27 | 307 => 28 | 308 => 29 | 309 => 30 | 310 => 31 | 333 => 34 | 329 => 35 | 330 => 36 | 334 => 37 | 335 => 38 | 336 => 39 | 344 => 40 | n => n, fun | 31 => 27 | 9 => 9 | 3 => 3 | 46 => 54 | 0 => 0 | 51 => 64 | 53 => 66 | 4 => 4 | 183 => 57 | 182 => 56 | 131 => 34 | 5 => 5 | 218 => 67 | 222 => 71 | 228 => 74 | 229 => 75 | n => n, fun | n => n⟩
theorem Try.laysSort : Go.Proofs.Lays.n190 Try.prog Try.laysSort_ren := {
  mixed := by kernel_rfl
  f125 := Try.func22.trans (congrArg some (by kernel_rfl))
  f128 := Try.func32.trans (congrArg some (by kernel_rfl))
  f129 := Try.func33.trans (congrArg some (by kernel_rfl))
  f190 := Try.func19.trans (congrArg some (by kernel_rfl))
  f258 := Try.func21.trans (congrArg some (by kernel_rfl))
  f302 := Try.func23.trans (congrArg some (by kernel_rfl))
  f303 := Try.func24.trans (congrArg some (by kernel_rfl))
  f304 := Try.func25.trans (congrArg some (by kernel_rfl))
  f305 := Try.func26.trans (congrArg some (by kernel_rfl))
  f306 := Try.func27.trans (congrArg some (by kernel_rfl))
  f307 := Try.func28.trans (congrArg some (by kernel_rfl))
  f308 := Try.func29.trans (congrArg some (by kernel_rfl))
  f309 := Try.func30.trans (congrArg some (by kernel_rfl))
  f310 := Try.func31.trans (congrArg some (by kernel_rfl))
  f329 := Try.func35.trans (congrArg some (by kernel_rfl))
  f330 := Try.func36.trans (congrArg some (by kernel_rfl))
  f333 := Try.func34.trans (congrArg some (by kernel_rfl))
  f334 := Try.func37.trans (congrArg some (by kernel_rfl))
  f335 := Try.func38.trans (congrArg some (by kernel_rfl))
  f336 := Try.func39.trans (congrArg some (by kernel_rfl))
  f344 := Try.func40.trans (congrArg some (by kernel_rfl))
  t0 := Try.underlying0
  a0 := Try.isAgg0
  z0 := Try.sizeOf0
  v0 := Try.zeroValue0
  t3 := Try.underlying3
  a3 := Try.isAgg3
  z3 := Try.sizeOf3
  v3 := Try.zeroValue3
  t4 := Try.underlying4
  a4 := Try.isAgg4
  z4 := Try.sizeOf4
  v4 := Try.zeroValue4
  t5 := Try.underlying5
  a5 := Try.isAgg5
  z5 := Try.sizeOf5
  v5 := Try.zeroValue5
  t9 := Try.underlying9
  a9 := Try.isAgg9
  z9 := Try.sizeOf9
  v9 := Try.zeroValue9
  t31 := Try.underlying27
  a31 := Try.isAgg27
  z31 := Try.sizeOf27
  v31 := Try.zeroValue27
  t46 := Try.underlying54
  a46 := Try.isAgg54
  z46 := Try.sizeOf54
  v46 := Try.zeroValue54
  t51 := Try.underlying64
  a51 := Try.isAgg64
  z51 := Try.sizeOf64
  v51 := Try.zeroValue64
  t53 := Try.underlying66
  a53 := Try.isAgg66
  z53 := Try.sizeOf66
  v53 := Try.zeroValue66
  t131 := Try.underlying34
  a131 := Try.isAgg34
  z131 := Try.sizeOf34
  v131 := Try.zeroValue34
  t182 := Try.underlying56
  a182 := Try.isAgg56
  z182 := Try.sizeOf56
  v182 := Try.zeroValue56
  t183 := Try.underlying57
  a183 := Try.isAgg57
  z183 := Try.sizeOf57
  v183 := Try.zeroValue57
  t218 := Try.underlying67
  a218 := Try.isAgg67
  z218 := Try.sizeOf67
  v218 := Try.zeroValue67
  t222 := Try.underlying71
  a222 := Try.isAgg71
  z222 := Try.sizeOf71
  v222 := Try.zeroValue71
  t228 := Try.underlying74
  a228 := Try.isAgg74
  z228 := Try.sizeOf74
  v228 := Try.zeroValue74
  t229 := Try.underlying75
  a229 := Try.isAgg75
  z229 := Try.sizeOf75
  v229 := Try.zeroValue75 }
end Go.Proofs
