/-
  DERIVED: THE SHELF's CONTRACTS AT THIS DUMP, IN PLAIN WORDS (tools/lay-plain.mjs out of 'TrydShelf.lean', which tools/lay-shelf.mjs wrote): THE SAME DECLARATIONS UNDER THE SAME NAMES: 'import', 'namespace', 'open', 'def', 'theorem' AND NOTHING ELSE: no command of the shelf's: FOR A HAND-IN. Each laying: the table of numbers ('.._ren') and one theorem, a field a fact of the dump's own or the kernel's comparison; each contract: ONE APPLICATION.
-/
import Derived.Shelf.Spec.SlicesGrow
import Derived.Ground.Names8Prog
import Derived.Shelf.SlIter.Collect
import Derived.Shelf.SlIter.Keys
import Derived.Ground.GgzProg
import Derived.Test.YtikbckpphkpaiaaDoorProg
namespace Go.Proofs
open Go.Shelf
def Tryd.growS_ren : Go.Shelf.Ren := ⟨fun | 4 => 50 | n => n, fun | 22 => 39 | 25 => 9 | 3 => 3 | 4 => 4 | 9 => 9 | 20 => 20 | 0 => 0 | n => n, fun | n => n⟩
theorem Tryd.growS : Go.Proofs.Lays8.n4 Tryd.prog Tryd.growS_ren := {
  mixed := by kernel_rfl
  f4 := ⟨Tryd.f50.name, by decide, Tryd.func50.trans (congrArg some (by kernel_rfl))⟩
  t0 := Tryd.underlying0
  a0 := Tryd.isAgg0
  z0 := Tryd.sizeOf0
  v0 := Tryd.zeroValue0
  t3 := Tryd.underlying3
  a3 := Tryd.isAgg3
  z3 := Tryd.sizeOf3
  v3 := Tryd.zeroValue3
  t4 := Tryd.underlying4
  a4 := Tryd.isAgg4
  z4 := Tryd.sizeOf4
  v4 := Tryd.zeroValue4
  t9 := Tryd.underlying9
  a9 := Tryd.isAgg9
  z9 := Tryd.sizeOf9
  v9 := Tryd.zeroValue9
  t20 := Tryd.underlying20
  a20 := Tryd.isAgg20
  z20 := Tryd.sizeOf20
  v20 := Tryd.zeroValue20
  t22 := Tryd.underlying39
  a22 := Tryd.isAgg39
  z22 := Tryd.sizeOf39
  v22 := Tryd.zeroValue39 }
def Tryd.keysIt_ren : Go.Shelf.Ren := ⟨fun | 7 => 28 | 10 => 52 | n => n, fun | 23 => 53 | 26 => 9 | 3 => 42 | 28 => 61 | 0 => 0 | 27 => 60 | 33 => 56 | 4 => 4 | n => n, fun | n => n⟩
theorem Tryd.keysIt : Go.Proofs.SlLaysZ.n7 Tryd.prog Tryd.keysIt_ren := {
  mixed := by kernel_rfl
  f7 := ⟨Tryd.f28.name, by decide, Tryd.func28.trans (congrArg some (by kernel_rfl))⟩
  f10 := ⟨Tryd.f52.name, by decide, Tryd.func52.trans (congrArg some (by kernel_rfl))⟩
  t0 := Tryd.underlying0
  a0 := Tryd.isAgg0
  z0 := Tryd.sizeOf0
  v0 := Tryd.zeroValue0
  t4 := Tryd.underlying4
  a4 := Tryd.isAgg4
  z4 := Tryd.sizeOf4
  v4 := Tryd.zeroValue4
  t23 := Tryd.underlying53
  a23 := Tryd.isAgg53
  z23 := Tryd.sizeOf53
  v23 := Tryd.zeroValue53
  t26 := Tryd.underlying9
  a26 := Tryd.isAgg9
  z26 := Tryd.sizeOf9
  v26 := Tryd.zeroValue9
  t27 := Tryd.underlying60
  a27 := Tryd.isAgg60
  z27 := Tryd.sizeOf60
  v27 := Tryd.zeroValue60
  t28 := Tryd.underlying61
  a28 := Tryd.isAgg61
  z28 := Tryd.sizeOf61
  v28 := Tryd.zeroValue61
  t33 := Tryd.underlying56
  a33 := Tryd.isAgg56
  z33 := Tryd.sizeOf56
  v33 := Tryd.zeroValue56 }
def Tryd.collectS_ren : Go.Shelf.Ren := ⟨fun | 8 => 27 | 11 => 51 | n => n, fun | 26 => 9 | 28 => 61 | 24 => 39 | 0 => 0 | 33 => 56 | 4 => 4 | n => n, fun | n => n⟩
theorem Tryd.collectS : Go.Proofs.SlLaysZ.n8 Tryd.prog Tryd.collectS_ren := {
  mixed := by kernel_rfl
  f8 := ⟨Tryd.f27.name, by decide, Tryd.func27.trans (congrArg some (by kernel_rfl))⟩
  f11 := ⟨Tryd.f51.name, by decide, Tryd.func51.trans (congrArg some (by kernel_rfl))⟩
  t0 := Tryd.underlying0
  a0 := Tryd.isAgg0
  z0 := Tryd.sizeOf0
  v0 := Tryd.zeroValue0
  t24 := Tryd.underlying39
  a24 := Tryd.isAgg39
  z24 := Tryd.sizeOf39
  v24 := Tryd.zeroValue39
  t26 := Tryd.underlying9
  a26 := Tryd.isAgg9
  z26 := Tryd.sizeOf9
  v26 := Tryd.zeroValue9
  t28 := Tryd.underlying61
  a28 := Tryd.isAgg61
  z28 := Tryd.sizeOf61
  v28 := Tryd.zeroValue61
  i26 := by kernel_rfl }
end Go.Proofs
