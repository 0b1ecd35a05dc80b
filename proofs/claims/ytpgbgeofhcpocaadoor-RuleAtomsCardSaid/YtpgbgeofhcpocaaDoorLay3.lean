/-
  DERIVED: THE SHELF's CONTRACTS AT THIS DUMP, IN PLAIN WORDS (tools/lay-plain.mjs out of 'TrydShelf.lean', which tools/lay-shelf.mjs wrote): THE SAME DECLARATIONS UNDER THE SAME NAMES: 'import', 'namespace', 'open', 'def', 'theorem' AND NOTHING ELSE: no command of the shelf's: FOR A HAND-IN. Each laying: the table of numbers ('.._ren') and one theorem, a field a fact of the dump's own or the kernel's comparison; each contract: ONE APPLICATION.
-/
import Derived.Shelf.Strings.IndexAnyAll
import Derived.Ground.NamesProg
import Derived.Test.YtpgbgeofhcpocaaDoorProg
namespace Go.Proofs
open Go.Shelf
def Tryd.laysAny_ren : Go.Shelf.Ren := ⟨fun | 153 => 26 | 152 => 36 | 226 => 37 | 227 => 38 | 228 => 39 | 137 => 45 | 119 => 46 | 224 => 47 | 225 => 48 | 217 => 54 | 266 => 62 | n => n, fun | 9 => 9 | 3 => 3 | 4 => 4 | 5 => 5 | 21 => 21 | 117 => 93 | 116 => 92 | 0 => 0 | 46 => 102 | 124 => 103 | n => n, fun | n => n⟩
theorem Tryd.laysAny : Go.Proofs.Lays.n153 Tryd.prog Tryd.laysAny_ren := {
  mixed := by kernel_rfl
  f119 := Tryd.func46.trans (congrArg some (by kernel_rfl))
  f137 := Tryd.func45.trans (congrArg some (by kernel_rfl))
  f152 := Tryd.func36.trans (congrArg some (by kernel_rfl))
  f153 := Tryd.func26.trans (congrArg some (by kernel_rfl))
  f217 := Tryd.func54.trans (congrArg some (by kernel_rfl))
  f224 := Tryd.func47.trans (congrArg some (by kernel_rfl))
  f225 := Tryd.func48.trans (congrArg some (by kernel_rfl))
  f226 := Tryd.func37.trans (congrArg some (by kernel_rfl))
  f227 := Tryd.func38.trans (congrArg some (by kernel_rfl))
  f228 := Tryd.func39.trans (congrArg some (by kernel_rfl))
  f266 := Tryd.func62.trans (congrArg some (by kernel_rfl))
  t0 := Tryd.underlying0
  a0 := Tryd.isAgg0
  z0 := Tryd.sizeOf0
  v0 := Tryd.zeroValue0
  t3 := Tryd.underlying3
  a3 := Tryd.isAgg3
  z3 := Tryd.sizeOf3
  v3 := Tryd.zeroValue3
  t4 := Tryd.underlying4
  a4 := Tryd.isAgg4
  z4 := Tryd.sizeOf4
  v4 := Tryd.zeroValue4
  t5 := Tryd.underlying5
  a5 := Tryd.isAgg5
  z5 := Tryd.sizeOf5
  v5 := Tryd.zeroValue5
  t9 := Tryd.underlying9
  a9 := Tryd.isAgg9
  z9 := Tryd.sizeOf9
  v9 := Tryd.zeroValue9
  t21 := Tryd.underlying21
  a21 := Tryd.isAgg21
  z21 := Tryd.sizeOf21
  v21 := Tryd.zeroValue21
  t46 := Tryd.underlying102
  a46 := Tryd.isAgg102
  z46 := Tryd.sizeOf102
  v46 := Tryd.zeroValue102
  t116 := Tryd.underlying92
  a116 := Tryd.isAgg92
  z116 := Tryd.sizeOf92
  t117 := Tryd.underlying93
  a117 := Tryd.isAgg93
  z117 := Tryd.sizeOf93
  v117 := Tryd.zeroValue93
  t124 := Tryd.underlying103
  a124 := Tryd.isAgg103
  z124 := Tryd.sizeOf103
  v124 := Tryd.zeroValue103 }
end Go.Proofs
