/-
  DERIVED: THE SHELF's CONTRACTS AT THIS DUMP, IN PLAIN WORDS (tools/lay-plain.mjs out of 'TryzShelf.lean', which tools/lay-shelf.mjs wrote): THE SAME DECLARATIONS UNDER THE SAME NAMES: 'import', 'namespace', 'open', 'def', 'theorem' AND NOTHING ELSE: no command of the shelf's: FOR A HAND-IN. Each laying: the table of numbers ('.._ren') and one theorem, a field a fact of the dump's own or the kernel's comparison; each contract: ONE APPLICATION.
-/
import Derived.Shelf.Sort.Plain
import Derived.Shelf.Slices.In.SortNone
import Derived.Ground.NamesProg
import Derived.Test.YthdmpcnnbminlaaGreatDoorProg
namespace Go.Proofs
open Go.Shelf
def Tryz.laysSortS_ren : Go.Shelf.Ren := ⟨fun | 190 => 108 | 125 => 162 | 258 => 161 | 128 => 197 | 129 => 198 | 302 => 188 | 303 => 189 | 304 => 190 | 305 => 191 | 306 => 192 | 307 => 193 | 308 => 194 | 309 => 195 | 310 => 196 | 333 => 213 | 329 => 214 | 330 => 215 | 334 => 216 | 335 => 217 | 336 => 218 | 344 => 230 | n => n, fun | 31 => 50 | 9 => 9 | 3 => 3 | 46 => 183 | 0 => 0 | 51 => 273 | 53 => 78 | 4 => 4 | 183 => 266 | 182 => 265 | 131 => 270 | 5 => 5 | 218 => 289 | 222 => 293 | 228 => 302 | 229 => 303 | n => n, fun | n => n⟩
theorem Tryz.laysSortS : Go.Proofs.Lays.n190 Tryz.prog Tryz.laysSortS_ren := {
  mixed := by kernel_rfl
  f125 := Tryz.func162.trans (congrArg some (by kernel_rfl))
  f128 := Tryz.func197.trans (congrArg some (by kernel_rfl))
  f129 := Tryz.func198.trans (congrArg some (by kernel_rfl))
  f190 := Tryz.func108.trans (congrArg some (by kernel_rfl))
  f258 := Tryz.func161.trans (congrArg some (by kernel_rfl))
  f302 := Tryz.func188.trans (congrArg some (by kernel_rfl))
  f303 := Tryz.func189.trans (congrArg some (by kernel_rfl))
  f304 := Tryz.func190.trans (congrArg some (by kernel_rfl))
  f305 := Tryz.func191.trans (congrArg some (by kernel_rfl))
  f306 := Tryz.func192.trans (congrArg some (by kernel_rfl))
  f307 := Tryz.func193.trans (congrArg some (by kernel_rfl))
  f308 := Tryz.func194.trans (congrArg some (by kernel_rfl))
  f309 := Tryz.func195.trans (congrArg some (by kernel_rfl))
  f310 := Tryz.func196.trans (congrArg some (by kernel_rfl))
  f329 := Tryz.func214.trans (congrArg some (by kernel_rfl))
  f330 := Tryz.func215.trans (congrArg some (by kernel_rfl))
  f333 := Tryz.func213.trans (congrArg some (by kernel_rfl))
  f334 := Tryz.func216.trans (congrArg some (by kernel_rfl))
  f335 := Tryz.func217.trans (congrArg some (by kernel_rfl))
  f336 := Tryz.func218.trans (congrArg some (by kernel_rfl))
  f344 := Tryz.func230.trans (congrArg some (by kernel_rfl))
  t0 := Tryz.underlying0
  a0 := Tryz.isAgg0
  z0 := Tryz.sizeOf0
  v0 := Tryz.zeroValue0
  t3 := Tryz.underlying3
  a3 := Tryz.isAgg3
  z3 := Tryz.sizeOf3
  v3 := Tryz.zeroValue3
  t4 := Tryz.underlying4
  a4 := Tryz.isAgg4
  z4 := Tryz.sizeOf4
  v4 := Tryz.zeroValue4
  t5 := Tryz.underlying5
  a5 := Tryz.isAgg5
  z5 := Tryz.sizeOf5
  v5 := Tryz.zeroValue5
  t9 := Tryz.underlying9
  a9 := Tryz.isAgg9
  z9 := Tryz.sizeOf9
  v9 := Tryz.zeroValue9
  t31 := Tryz.underlying50
  a31 := Tryz.isAgg50
  z31 := Tryz.sizeOf50
  v31 := Tryz.zeroValue50
  t46 := Tryz.underlying183
  a46 := Tryz.isAgg183
  z46 := Tryz.sizeOf183
  v46 := Tryz.zeroValue183
  t51 := Tryz.underlying273
  a51 := Tryz.isAgg273
  z51 := Tryz.sizeOf273
  v51 := Tryz.zeroValue273
  t53 := Tryz.underlying78
  a53 := Tryz.isAgg78
  z53 := Tryz.sizeOf78
  v53 := Tryz.zeroValue78
  t131 := Tryz.underlying270
  a131 := Tryz.isAgg270
  z131 := Tryz.sizeOf270
  v131 := Tryz.zeroValue270
  t182 := Tryz.underlying265
  a182 := Tryz.isAgg265
  z182 := Tryz.sizeOf265
  v182 := Tryz.zeroValue265
  t183 := Tryz.underlying266
  a183 := Tryz.isAgg266
  z183 := Tryz.sizeOf266
  v183 := Tryz.zeroValue266
  t218 := Tryz.underlying289
  a218 := Tryz.isAgg289
  z218 := Tryz.sizeOf289
  v218 := Tryz.zeroValue289
  t222 := Tryz.underlying293
  a222 := Tryz.isAgg293
  z222 := Tryz.sizeOf293
  v222 := Tryz.zeroValue293
  t228 := Tryz.underlying302
  a228 := Tryz.isAgg302
  z228 := Tryz.sizeOf302
  v228 := Tryz.zeroValue302
  t229 := Tryz.underlying303
  a229 := Tryz.isAgg303
  z229 := Tryz.sizeOf303
  v229 := Tryz.zeroValue303 }
end Go.Proofs
