/-
  DERIVED: THE SHELF's CONTRACTS AT THIS DUMP, IN PLAIN WORDS (tools/lay-plain.mjs out of 'TrydShelf.lean', which tools/lay-shelf.mjs wrote): THE SAME DECLARATIONS UNDER THE SAME NAMES: 'import', 'namespace', 'open', 'def', 'theorem' AND NOTHING ELSE: no command of the shelf's: FOR A HAND-IN. Each laying: the table of numbers ('.._ren') and one theorem, a field a fact of the dump's own or the kernel's comparison; each contract: ONE APPLICATION.
-/
import Derived.Shelf.Slices.CompactI
import Derived.Shelf.Sort.Plain
import Derived.Shelf.Slices.In.SortNone
import Derived.Ground.NamesProg
import Derived.Ground.Names2Prog
import Derived.Test.YtpnfnmpohacnoaaDoorProg
namespace Go.Proofs
open Go.Shelf
def Tryd.laysCompact_ren : Go.Shelf.Ren := ⟨fun | 20 => 25 | n => n, fun | 22 => 27 | 3 => 3 | 4 => 4 | 0 => 0 | n => n, fun | n => n⟩
theorem Tryd.laysCompact : Go.Proofs.Lays2.n20 Tryd.prog Tryd.laysCompact_ren := {
  mixed := by kernel_rfl
  f20 := Tryd.func25.trans (congrArg some (by kernel_rfl))
  t0 := Tryd.underlying0
  a0 := Tryd.isAgg0
  z0 := Tryd.sizeOf0
  v0 := Tryd.zeroValue0
  t3 := Tryd.underlying3
  a3 := Tryd.isAgg3
  z3 := Tryd.sizeOf3
  v3 := Tryd.zeroValue3
  t4 := Tryd.underlying4
  a4 := Tryd.isAgg4
  z4 := Tryd.sizeOf4
  v4 := Tryd.zeroValue4
  t22 := Tryd.underlying27
  a22 := Tryd.isAgg27
  z22 := Tryd.sizeOf27
  v22 := Tryd.zeroValue27
  i3 := by kernel_rfl }
def Tryd.laysSortS_ren : Go.Shelf.Ren := ⟨fun | 190 => 45 | 125 => 59 | 258 => 58 | 128 => 80 | 129 => 81 | 302 => 71 | 303 => 72 | 304 => 73 | 305 => 74 | 306 => 75 | 307 => 76 | 308 => 77 | 309 => 78 | 310 => 79 | 333 => 91 | 329 => 92 | 330 => 93 | 334 => 94 | 335 => 95 | 336 => 96 | 344 => 100 | n => n, fun | 31 => 38 | 9 => 9 | 3 => 3 | 46 => 76 | 0 => 0 | 51 => 100 | 53 => 102 | 4 => 4 | 183 => 92 | 182 => 91 | 131 => 97 | 5 => 5 | 218 => 108 | 222 => 112 | 228 => 116 | 229 => 117 | n => n, fun | n => n⟩
theorem Tryd.laysSortS : Go.Proofs.Lays.n190 Tryd.prog Tryd.laysSortS_ren := {
  mixed := by kernel_rfl
  f125 := Tryd.func59.trans (congrArg some (by kernel_rfl))
  f128 := Tryd.func80.trans (congrArg some (by kernel_rfl))
  f129 := Tryd.func81.trans (congrArg some (by kernel_rfl))
  f190 := Tryd.func45.trans (congrArg some (by kernel_rfl))
  f258 := Tryd.func58.trans (congrArg some (by kernel_rfl))
  f302 := Tryd.func71.trans (congrArg some (by kernel_rfl))
  f303 := Tryd.func72.trans (congrArg some (by kernel_rfl))
  f304 := Tryd.func73.trans (congrArg some (by kernel_rfl))
  f305 := Tryd.func74.trans (congrArg some (by kernel_rfl))
  f306 := Tryd.func75.trans (congrArg some (by kernel_rfl))
  f307 := Tryd.func76.trans (congrArg some (by kernel_rfl))
  f308 := Tryd.func77.trans (congrArg some (by kernel_rfl))
  f309 := Tryd.func78.trans (congrArg some (by kernel_rfl))
  f310 := Tryd.func79.trans (congrArg some (by kernel_rfl))
  f329 := Tryd.func92.trans (congrArg some (by kernel_rfl))
  f330 := Tryd.func93.trans (congrArg some (by kernel_rfl))
  f333 := Tryd.func91.trans (congrArg some (by kernel_rfl))
  f334 := Tryd.func94.trans (congrArg some (by kernel_rfl))
  f335 := Tryd.func95.trans (congrArg some (by kernel_rfl))
  f336 := Tryd.func96.trans (congrArg some (by kernel_rfl))
  f344 := Tryd.func100.trans (congrArg some (by kernel_rfl))
  t0 := Tryd.underlying0
  a0 := Tryd.isAgg0
  z0 := Tryd.sizeOf0
  v0 := Tryd.zeroValue0
  t3 := Tryd.underlying3
  a3 := Tryd.isAgg3
  z3 := Tryd.sizeOf3
  v3 := Tryd.zeroValue3
  t4 := Tryd.underlying4
  a4 := Tryd.isAgg4
  z4 := Tryd.sizeOf4
  v4 := Tryd.zeroValue4
  t5 := Tryd.underlying5
  a5 := Tryd.isAgg5
  z5 := Tryd.sizeOf5
  v5 := Tryd.zeroValue5
  t9 := Tryd.underlying9
  a9 := Tryd.isAgg9
  z9 := Tryd.sizeOf9
  v9 := Tryd.zeroValue9
  t31 := Tryd.underlying38
  a31 := Tryd.isAgg38
  z31 := Tryd.sizeOf38
  v31 := Tryd.zeroValue38
  t46 := Tryd.underlying76
  a46 := Tryd.isAgg76
  z46 := Tryd.sizeOf76
  v46 := Tryd.zeroValue76
  t51 := Tryd.underlying100
  a51 := Tryd.isAgg100
  z51 := Tryd.sizeOf100
  v51 := Tryd.zeroValue100
  t53 := Tryd.underlying102
  a53 := Tryd.isAgg102
  z53 := Tryd.sizeOf102
  v53 := Tryd.zeroValue102
  t131 := Tryd.underlying97
  a131 := Tryd.isAgg97
  z131 := Tryd.sizeOf97
  v131 := Tryd.zeroValue97
  t182 := Tryd.underlying91
  a182 := Tryd.isAgg91
  z182 := Tryd.sizeOf91
  v182 := Tryd.zeroValue91
  t183 := Tryd.underlying92
  a183 := Tryd.isAgg92
  z183 := Tryd.sizeOf92
  v183 := Tryd.zeroValue92
  t218 := Tryd.underlying108
  a218 := Tryd.isAgg108
  z218 := Tryd.sizeOf108
  v218 := Tryd.zeroValue108
  t222 := Tryd.underlying112
  a222 := Tryd.isAgg112
  z222 := Tryd.sizeOf112
  v222 := Tryd.zeroValue112
  t228 := Tryd.underlying116
  a228 := Tryd.isAgg116
  z228 := Tryd.sizeOf116
  v228 := Tryd.zeroValue116
  t229 := Tryd.underlying117
  a229 := Tryd.isAgg117
  z229 := Tryd.sizeOf117
  v229 := Tryd.zeroValue117 }
end Go.Proofs
