/-
  DERIVED: THE SHELF's CONTRACTS AT THIS DUMP, IN PLAIN WORDS (tools/lay-plain.mjs out of 'TryzShelf.lean', which tools/lay-shelf.mjs wrote): THE SAME DECLARATIONS UNDER THE SAME NAMES: 'import', 'namespace', 'open', 'def', 'theorem' AND NOTHING ELSE: no command of the shelf's: FOR A HAND-IN. Each laying: the table of numbers ('.._ren') and one theorem, a field a fact of the dump's own or the kernel's comparison; each contract: ONE APPLICATION.
-/
import Derived.Shelf.Strings.IndexAnyAll
import Derived.Ground.NamesProg
import Derived.Test.YtphmhbcimhlcjaaGreatDoorProg
namespace Go.Proofs
open Go.Shelf
def Tryz.laysAny_ren : Go.Shelf.Ren := ⟨fun | 153 => 81 | 152 => 126 | 226 => 127 | 227 => 128 | 228 => 129 | 137 => 152 | 119 => 153 | 224 => 154 | 225 => 155 | 217 => 168 | 266 => 182 | n => n, fun | 9 => 9 | 3 => 3 | 4 => 4 | 5 => 5 | 21 => 21 | 117 => 192 | 116 => 191 | 0 => 0 | 46 => 235 | 124 => 236 | n => n, fun | n => n⟩
theorem Tryz.laysAny : Go.Proofs.Lays.n153 Tryz.prog Tryz.laysAny_ren := {
  mixed := by kernel_rfl
  f119 := Tryz.func153.trans (congrArg some (by kernel_rfl))
  f137 := Tryz.func152.trans (congrArg some (by kernel_rfl))
  f152 := Tryz.func126.trans (congrArg some (by kernel_rfl))
  f153 := Tryz.func81.trans (congrArg some (by kernel_rfl))
  f217 := Tryz.func168.trans (congrArg some (by kernel_rfl))
  f224 := Tryz.func154.trans (congrArg some (by kernel_rfl))
  f225 := Tryz.func155.trans (congrArg some (by kernel_rfl))
  f226 := Tryz.func127.trans (congrArg some (by kernel_rfl))
  f227 := Tryz.func128.trans (congrArg some (by kernel_rfl))
  f228 := Tryz.func129.trans (congrArg some (by kernel_rfl))
  f266 := Tryz.func182.trans (congrArg some (by kernel_rfl))
  t0 := Tryz.underlying0
  a0 := Tryz.isAgg0
  z0 := Tryz.sizeOf0
  v0 := Tryz.zeroValue0
  t3 := Tryz.underlying3
  a3 := Tryz.isAgg3
  z3 := Tryz.sizeOf3
  v3 := Tryz.zeroValue3
  t4 := Tryz.underlying4
  a4 := Tryz.isAgg4
  z4 := Tryz.sizeOf4
  v4 := Tryz.zeroValue4
  t5 := Tryz.underlying5
  a5 := Tryz.isAgg5
  z5 := Tryz.sizeOf5
  v5 := Tryz.zeroValue5
  t9 := Tryz.underlying9
  a9 := Tryz.isAgg9
  z9 := Tryz.sizeOf9
  v9 := Tryz.zeroValue9
  t21 := Tryz.underlying21
  a21 := Tryz.isAgg21
  z21 := Tryz.sizeOf21
  v21 := Tryz.zeroValue21
  t46 := Tryz.underlying235
  a46 := Tryz.isAgg235
  z46 := Tryz.sizeOf235
  v46 := Tryz.zeroValue235
  t116 := Tryz.underlying191
  a116 := Tryz.isAgg191
  z116 := Tryz.sizeOf191
  t117 := Tryz.underlying192
  a117 := Tryz.isAgg192
  z117 := Tryz.sizeOf192
  v117 := Tryz.zeroValue192
  t124 := Tryz.underlying236
  a124 := Tryz.isAgg236
  z124 := Tryz.sizeOf236
  v124 := Tryz.zeroValue236 }
end Go.Proofs
