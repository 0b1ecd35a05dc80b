/-
  DERIVED: THE SHELF's CONTRACTS AT THIS DUMP, IN PLAIN WORDS (tools/lay-plain.mjs out of 'TryzShelf.lean', which tools/lay-shelf.mjs wrote): THE SAME DECLARATIONS UNDER THE SAME NAMES: 'import', 'namespace', 'open', 'def', 'theorem' AND NOTHING ELSE: no command of the shelf's: FOR A HAND-IN. Each laying: the table of numbers ('.._ren') and one theorem, a field a fact of the dump's own or the kernel's comparison; each contract: ONE APPLICATION.
-/
import Derived.Shelf.Slices.CompactS
import Derived.Shelf.Sort.Plain
import Derived.Shelf.Slices.In.SortNone
import Derived.Ground.NamesProg
import Derived.Test.YtikbckpphkpaiaaGreatDoorProg
namespace Go.Proofs
open Go.Shelf
def Tryz.laysCompactS_ren : Go.Shelf.Ren := ⟨fun | 194 => 33 | n => n, fun | 31 => 51 | 9 => 9 | 3 => 3 | 4 => 4 | 0 => 0 | n => n, fun | n => n⟩
theorem Tryz.laysCompactS : Go.Proofs.Lays.n194 Tryz.prog Tryz.laysCompactS_ren := {
  mixed := by kernel_rfl
  f194 := Tryz.func33.trans (congrArg some (by kernel_rfl))
  t0 := Tryz.underlying0
  a0 := Tryz.isAgg0
  z0 := Tryz.sizeOf0
  v0 := Tryz.zeroValue0
  t3 := Tryz.underlying3
  a3 := Tryz.isAgg3
  z3 := Tryz.sizeOf3
  v3 := Tryz.zeroValue3
  t4 := Tryz.underlying4
  a4 := Tryz.isAgg4
  z4 := Tryz.sizeOf4
  v4 := Tryz.zeroValue4
  t9 := Tryz.underlying9
  a9 := Tryz.isAgg9
  z9 := Tryz.sizeOf9
  v9 := Tryz.zeroValue9
  t31 := Tryz.underlying51
  a31 := Tryz.isAgg51
  z31 := Tryz.sizeOf51
  v31 := Tryz.zeroValue51 }
def Tryz.laysSortS_ren : Go.Shelf.Ren := ⟨fun | 190 => 32 | 125 => 50 | 258 => 49 | 128 => 71 | 129 => 72 | 302 => 62 | 303 => 63 | 304 => 64 | 305 => 65 | 306 => 66 | 307 => 67 | 308 => 68 | 309 => 69 | 310 => 70 | 333 => 87 | 329 => 88 | 330 => 89 | 334 => 90 | 335 => 91 | 336 => 92 | 344 => 106 | n => n, fun | 31 => 51 | 9 => 9 | 3 => 3 | 46 => 96 | 0 => 0 | 51 => 119 | 53 => 121 | 4 => 4 | 183 => 111 | 182 => 110 | 131 => 116 | 5 => 5 | 218 => 132 | 222 => 136 | 228 => 153 | 229 => 154 | n => n, fun | n => n⟩
theorem Tryz.laysSortS : Go.Proofs.Lays.n190 Tryz.prog Tryz.laysSortS_ren := {
  mixed := by kernel_rfl
  f125 := Tryz.func50.trans (congrArg some (by kernel_rfl))
  f128 := Tryz.func71.trans (congrArg some (by kernel_rfl))
  f129 := Tryz.func72.trans (congrArg some (by kernel_rfl))
  f190 := Tryz.func32.trans (congrArg some (by kernel_rfl))
  f258 := Tryz.func49.trans (congrArg some (by kernel_rfl))
  f302 := Tryz.func62.trans (congrArg some (by kernel_rfl))
  f303 := Tryz.func63.trans (congrArg some (by kernel_rfl))
  f304 := Tryz.func64.trans (congrArg some (by kernel_rfl))
  f305 := Tryz.func65.trans (congrArg some (by kernel_rfl))
  f306 := Tryz.func66.trans (congrArg some (by kernel_rfl))
  f307 := Tryz.func67.trans (congrArg some (by kernel_rfl))
  f308 := Tryz.func68.trans (congrArg some (by kernel_rfl))
  f309 := Tryz.func69.trans (congrArg some (by kernel_rfl))
  f310 := Tryz.func70.trans (congrArg some (by kernel_rfl))
  f329 := Tryz.func88.trans (congrArg some (by kernel_rfl))
  f330 := Tryz.func89.trans (congrArg some (by kernel_rfl))
  f333 := Tryz.func87.trans (congrArg some (by kernel_rfl))
  f334 := Tryz.func90.trans (congrArg some (by kernel_rfl))
  f335 := Tryz.func91.trans (congrArg some (by kernel_rfl))
  f336 := Tryz.func92.trans (congrArg some (by kernel_rfl))
  f344 := Tryz.func106.trans (congrArg some (by kernel_rfl))
  t0 := Tryz.underlying0
  a0 := Tryz.isAgg0
  z0 := Tryz.sizeOf0
  v0 := Tryz.zeroValue0
  t3 := Tryz.underlying3
  a3 := Tryz.isAgg3
  z3 := Tryz.sizeOf3
  v3 := Tryz.zeroValue3
  t4 := Tryz.underlying4
  a4 := Tryz.isAgg4
  z4 := Tryz.sizeOf4
  v4 := Tryz.zeroValue4
  t5 := Tryz.underlying5
  a5 := Tryz.isAgg5
  z5 := Tryz.sizeOf5
  v5 := Tryz.zeroValue5
  t9 := Tryz.underlying9
  a9 := Tryz.isAgg9
  z9 := Tryz.sizeOf9
  v9 := Tryz.zeroValue9
  t31 := Tryz.underlying51
  a31 := Tryz.isAgg51
  z31 := Tryz.sizeOf51
  v31 := Tryz.zeroValue51
  t46 := Tryz.underlying96
  a46 := Tryz.isAgg96
  z46 := Tryz.sizeOf96
  v46 := Tryz.zeroValue96
  t51 := Tryz.underlying119
  a51 := Tryz.isAgg119
  z51 := Tryz.sizeOf119
  v51 := Tryz.zeroValue119
  t53 := Tryz.underlying121
  a53 := Tryz.isAgg121
  z53 := Tryz.sizeOf121
  v53 := Tryz.zeroValue121
  t131 := Tryz.underlying116
  a131 := Tryz.isAgg116
  z131 := Tryz.sizeOf116
  v131 := Tryz.zeroValue116
  t182 := Tryz.underlying110
  a182 := Tryz.isAgg110
  z182 := Tryz.sizeOf110
  v182 := Tryz.zeroValue110
  t183 := Tryz.underlying111
  a183 := Tryz.isAgg111
  z183 := Tryz.sizeOf111
  v183 := Tryz.zeroValue111
  t218 := Tryz.underlying132
  a218 := Tryz.isAgg132
  z218 := Tryz.sizeOf132
  v218 := Tryz.zeroValue132
  t222 := Tryz.underlying136
  a222 := Tryz.isAgg136
  z222 := Tryz.sizeOf136
  v222 := Tryz.zeroValue136
  t228 := Tryz.underlying153
  a228 := Tryz.isAgg153
  z228 := Tryz.sizeOf153
  v228 := Tryz.zeroValue153
  t229 := Tryz.underlying154
  a229 := Tryz.isAgg154
  z229 := Tryz.sizeOf154
  v229 := Tryz.zeroValue154 }
end Go.Proofs
