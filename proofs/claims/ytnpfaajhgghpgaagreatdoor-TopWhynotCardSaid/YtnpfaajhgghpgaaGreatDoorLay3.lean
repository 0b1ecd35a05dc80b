/-
  DERIVED: THE SHELF's CONTRACTS AT THIS DUMP, IN PLAIN WORDS (tools/lay-plain.mjs out of 'TryzShelf.lean', which tools/lay-shelf.mjs wrote): THE SAME DECLARATIONS UNDER THE SAME NAMES: 'import', 'namespace', 'open', 'def', 'theorem' AND NOTHING ELSE: no command of the shelf's: FOR A HAND-IN. Each laying: the table of numbers ('.._ren') and one theorem, a field a fact of the dump's own or the kernel's comparison; each contract: ONE APPLICATION.
-/
import Derived.Shelf.Strings.IndexAnyAll
import Derived.Ground.NamesProg
import Derived.Test.YtnpfaajhgghpgaaGreatDoorProg
namespace Go.Proofs
open Go.Shelf
def Tryz.laysAny_ren : Go.Shelf.Ren := ⟨fun | 153 => 49 | 152 => 94 | 226 => 95 | 227 => 96 | 228 => 97 | 137 => 119 | 119 => 120 | 224 => 121 | 225 => 122 | 217 => 135 | 266 => 151 | n => n, fun | 9 => 9 | 3 => 3 | 4 => 4 | 5 => 5 | 21 => 21 | 117 => 167 | 116 => 166 | 0 => 0 | 46 => 217 | 124 => 218 | n => n, fun | n => n⟩
theorem Tryz.laysAny : Go.Proofs.Lays.n153 Tryz.prog Tryz.laysAny_ren := {
  mixed := by kernel_rfl
  f119 := Tryz.func120.trans (congrArg some (by kernel_rfl))
  f137 := Tryz.func119.trans (congrArg some (by kernel_rfl))
  f152 := Tryz.func94.trans (congrArg some (by kernel_rfl))
  f153 := Tryz.func49.trans (congrArg some (by kernel_rfl))
  f217 := Tryz.func135.trans (congrArg some (by kernel_rfl))
  f224 := Tryz.func121.trans (congrArg some (by kernel_rfl))
  f225 := Tryz.func122.trans (congrArg some (by kernel_rfl))
  f226 := Tryz.func95.trans (congrArg some (by kernel_rfl))
  f227 := Tryz.func96.trans (congrArg some (by kernel_rfl))
  f228 := Tryz.func97.trans (congrArg some (by kernel_rfl))
  f266 := Tryz.func151.trans (congrArg some (by kernel_rfl))
  t0 := Tryz.underlying0
  a0 := Tryz.isAgg0
  z0 := Tryz.sizeOf0
  v0 := Tryz.zeroValue0
  t3 := Tryz.underlying3
  a3 := Tryz.isAgg3
  z3 := Tryz.sizeOf3
  v3 := Tryz.zeroValue3
  t4 := Tryz.underlying4
  a4 := Tryz.isAgg4
  z4 := Tryz.sizeOf4
  v4 := Tryz.zeroValue4
  t5 := Tryz.underlying5
  a5 := Tryz.isAgg5
  z5 := Tryz.sizeOf5
  v5 := Tryz.zeroValue5
  t9 := Tryz.underlying9
  a9 := Tryz.isAgg9
  z9 := Tryz.sizeOf9
  v9 := Tryz.zeroValue9
  t21 := Tryz.underlying21
  a21 := Tryz.isAgg21
  z21 := Tryz.sizeOf21
  v21 := Tryz.zeroValue21
  t46 := Tryz.underlying217
  a46 := Tryz.isAgg217
  z46 := Tryz.sizeOf217
  v46 := Tryz.zeroValue217
  t116 := Tryz.underlying166
  a116 := Tryz.isAgg166
  z116 := Tryz.sizeOf166
  t117 := Tryz.underlying167
  a117 := Tryz.isAgg167
  z117 := Tryz.sizeOf167
  v117 := Tryz.zeroValue167
  t124 := Tryz.underlying218
  a124 := Tryz.isAgg218
  z124 := Tryz.sizeOf218
  v124 := Tryz.zeroValue218 }
end Go.Proofs
