/-
  DERIVED: THE SHELF's CONTRACTS AT THIS DUMP, IN PLAIN WORDS (tools/lay-plain.mjs out of 'TrydShelf.lean', which tools/lay-shelf.mjs wrote): THE SAME DECLARATIONS UNDER THE SAME NAMES: 'import', 'namespace', 'open', 'def', 'theorem' AND NOTHING ELSE: no command of the shelf's: FOR A HAND-IN. Each laying: the table of numbers ('.._ren') and one theorem, a field a fact of the dump's own or the kernel's comparison; each contract: ONE APPLICATION.
-/
import Derived.Shelf.Slices.CompactS
import Derived.Shelf.Sort.Plain
import Derived.Shelf.Slices.In.SortNone
import Derived.Ground.NamesProg
import Derived.Test.YtikbckpphkpaiaaDoorProg
namespace Go.Proofs
open Go.Shelf
def Tryd.laysCompactS_ren : Go.Shelf.Ren := ⟨fun | 194 => 30 | n => n, fun | 31 => 39 | 9 => 9 | 3 => 3 | 4 => 4 | 0 => 0 | n => n, fun | n => n⟩
theorem Tryd.laysCompactS : Go.Proofs.Lays.n194 Tryd.prog Tryd.laysCompactS_ren := {
  mixed := by kernel_rfl
  f194 := Tryd.func30.trans (congrArg some (by kernel_rfl))
  t0 := Tryd.underlying0
  a0 := Tryd.isAgg0
  z0 := Tryd.sizeOf0
  v0 := Tryd.zeroValue0
  t3 := Tryd.underlying3
  a3 := Tryd.isAgg3
  z3 := Tryd.sizeOf3
  v3 := Tryd.zeroValue3
  t4 := Tryd.underlying4
  a4 := Tryd.isAgg4
  z4 := Tryd.sizeOf4
  v4 := Tryd.zeroValue4
  t9 := Tryd.underlying9
  a9 := Tryd.isAgg9
  z9 := Tryd.sizeOf9
  v9 := Tryd.zeroValue9
  t31 := Tryd.underlying39
  a31 := Tryd.isAgg39
  z31 := Tryd.sizeOf39
  v31 := Tryd.zeroValue39 }
def Tryd.laysSortS_ren : Go.Shelf.Ren := ⟨fun | 190 => 29 | 125 => 54 | 258 => 53 | 128 => 79 | 129 => 80 | 302 => 70 | 303 => 71 | 304 => 72 | 305 => 73 | 306 => 74 | 307 => 75 | 308 => 76 | 309 => 77 | 310 => 78 | 333 => 89 | 329 => 90 | 330 => 91 | 334 => 92 | 335 => 93 | 336 => 94 | 344 => 103 | n => n, fun | 31 => 39 | 9 => 9 | 3 => 3 | 46 => 102 | 0 => 0 | 51 => 122 | 53 => 124 | 4 => 4 | 183 => 114 | 182 => 113 | 131 => 119 | 5 => 5 | 218 => 131 | 222 => 135 | 228 => 141 | 229 => 142 | n => n, fun | n => n⟩
theorem Tryd.laysSortS : Go.Proofs.Lays.n190 Tryd.prog Tryd.laysSortS_ren := {
  mixed := by kernel_rfl
  f125 := Tryd.func54.trans (congrArg some (by kernel_rfl))
  f128 := Tryd.func79.trans (congrArg some (by kernel_rfl))
  f129 := Tryd.func80.trans (congrArg some (by kernel_rfl))
  f190 := Tryd.func29.trans (congrArg some (by kernel_rfl))
  f258 := Tryd.func53.trans (congrArg some (by kernel_rfl))
  f302 := Tryd.func70.trans (congrArg some (by kernel_rfl))
  f303 := Tryd.func71.trans (congrArg some (by kernel_rfl))
  f304 := Tryd.func72.trans (congrArg some (by kernel_rfl))
  f305 := Tryd.func73.trans (congrArg some (by kernel_rfl))
  f306 := Tryd.func74.trans (congrArg some (by kernel_rfl))
  f307 := Tryd.func75.trans (congrArg some (by kernel_rfl))
  f308 := Tryd.func76.trans (congrArg some (by kernel_rfl))
  f309 := Tryd.func77.trans (congrArg some (by kernel_rfl))
  f310 := Tryd.func78.trans (congrArg some (by kernel_rfl))
  f329 := Tryd.func90.trans (congrArg some (by kernel_rfl))
  f330 := Tryd.func91.trans (congrArg some (by kernel_rfl))
  f333 := Tryd.func89.trans (congrArg some (by kernel_rfl))
  f334 := Tryd.func92.trans (congrArg some (by kernel_rfl))
  f335 := Tryd.func93.trans (congrArg some (by kernel_rfl))
  f336 := Tryd.func94.trans (congrArg some (by kernel_rfl))
  f344 := Tryd.func103.trans (congrArg some (by kernel_rfl))
  t0 := Tryd.underlying0
  a0 := Tryd.isAgg0
  z0 := Tryd.sizeOf0
  v0 := Tryd.zeroValue0
  t3 := Tryd.underlying3
  a3 := Tryd.isAgg3
  z3 := Tryd.sizeOf3
  v3 := Tryd.zeroValue3
  t4 := Tryd.underlying4
  a4 := Tryd.isAgg4
  z4 := Tryd.sizeOf4
  v4 := Tryd.zeroValue4
  t5 := Tryd.underlying5
  a5 := Tryd.isAgg5
  z5 := Tryd.sizeOf5
  v5 := Tryd.zeroValue5
  t9 := Tryd.underlying9
  a9 := Tryd.isAgg9
  z9 := Tryd.sizeOf9
  v9 := Tryd.zeroValue9
  t31 := Tryd.underlying39
  a31 := Tryd.isAgg39
  z31 := Tryd.sizeOf39
  v31 := Tryd.zeroValue39
  t46 := Tryd.underlying102
  a46 := Tryd.isAgg102
  z46 := Tryd.sizeOf102
  v46 := Tryd.zeroValue102
  t51 := Tryd.underlying122
  a51 := Tryd.isAgg122
  z51 := Tryd.sizeOf122
  v51 := Tryd.zeroValue122
  t53 := Tryd.underlying124
  a53 := Tryd.isAgg124
  z53 := Tryd.sizeOf124
  v53 := Tryd.zeroValue124
  t131 := Tryd.underlying119
  a131 := Tryd.isAgg119
  z131 := Tryd.sizeOf119
  v131 := Tryd.zeroValue119
  t182 := Tryd.underlying113
  a182 := Tryd.isAgg113
  z182 := Tryd.sizeOf113
  v182 := Tryd.zeroValue113
  t183 := Tryd.underlying114
  a183 := Tryd.isAgg114
  z183 := Tryd.sizeOf114
  v183 := Tryd.zeroValue114
  t218 := Tryd.underlying131
  a218 := Tryd.isAgg131
  z218 := Tryd.sizeOf131
  v218 := Tryd.zeroValue131
  t222 := Tryd.underlying135
  a222 := Tryd.isAgg135
  z222 := Tryd.sizeOf135
  v222 := Tryd.zeroValue135
  t228 := Tryd.underlying141
  a228 := Tryd.isAgg141
  z228 := Tryd.sizeOf141
  v228 := Tryd.zeroValue141
  t229 := Tryd.underlying142
  a229 := Tryd.isAgg142
  z229 := Tryd.sizeOf142
  v229 := Tryd.zeroValue142 }
end Go.Proofs
