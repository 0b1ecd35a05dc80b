/-
  DERIVED: THE SHELF's CONTRACTS AT THIS DUMP, IN PLAIN WORDS (tools/lay-plain.mjs out of 'TrydShelf.lean', which tools/lay-shelf.mjs wrote): THE SAME DECLARATIONS UNDER THE SAME NAMES: 'import', 'namespace', 'open', 'def', 'theorem' AND NOTHING ELSE: no command of the shelf's: FOR A HAND-IN. Each laying: the table of numbers ('.._ren') and one theorem, a field a fact of the dump's own or the kernel's comparison; each contract: ONE APPLICATION.
-/
import Derived.Shelf.SlIter.Nil
import Derived.Shelf.SortM.Plain
import Derived.Shelf.SortM.SortNone
import Derived.Ground.GgzProg
import Derived.Ground.SlgmProg
import Derived.Test.YtobkgkiomapabaaDoorProg
namespace Go.Proofs
open Go.Shelf
def Tryd.keys41_ren : Go.Shelf.Ren := ⟨fun | 7 => 41 | 10 => 52 | n => n, fun | 23 => 44 | 26 => 9 | 3 => 56 | 28 => 77 | 0 => 0 | 27 => 76 | 33 => 35 | 4 => 4 | n => n, fun | n => n⟩
theorem Tryd.keys41 : Go.Proofs.SlLaysZ.n7 Tryd.prog Tryd.keys41_ren := {
  mixed := by kernel_rfl
  f7 := ⟨Tryd.f41.name, by decide, Tryd.func41.trans (congrArg some (by kernel_rfl))⟩
  f10 := ⟨Tryd.f52.name, by decide, Tryd.func52.trans (congrArg some (by kernel_rfl))⟩
  t0 := Tryd.underlying0
  a0 := Tryd.isAgg0
  z0 := Tryd.sizeOf0
  v0 := Tryd.zeroValue0
  t4 := Tryd.underlying4
  a4 := Tryd.isAgg4
  z4 := Tryd.sizeOf4
  v4 := Tryd.zeroValue4
  t23 := Tryd.underlying44
  a23 := Tryd.isAgg44
  z23 := Tryd.sizeOf44
  v23 := Tryd.zeroValue44
  t26 := Tryd.underlying9
  a26 := Tryd.isAgg9
  z26 := Tryd.sizeOf9
  v26 := Tryd.zeroValue9
  t27 := Tryd.underlying76
  a27 := Tryd.isAgg76
  z27 := Tryd.sizeOf76
  v27 := Tryd.zeroValue76
  t28 := Tryd.underlying77
  a28 := Tryd.isAgg77
  z28 := Tryd.sizeOf77
  v28 := Tryd.zeroValue77
  t33 := Tryd.underlying35
  a33 := Tryd.isAgg35
  z33 := Tryd.sizeOf35
  v33 := Tryd.zeroValue35 }
def Tryd.sorted40_ren : Go.Shelf.Ren := ⟨fun | 6 => 40 | 8 => 50 | 9 => 51 | 11 => 64 | 13 => 66 | 12 => 65 | 23 => 91 | 24 => 92 | 14 => 82 | 15 => 83 | 16 => 84 | 17 => 85 | 18 => 86 | 19 => 87 | 20 => 88 | 21 => 89 | 22 => 90 | 25 => 103 | 26 => 104 | 27 => 105 | 28 => 106 | 29 => 107 | 30 => 108 | 31 => 112 | n => n, fun | 26 => 9 | 28 => 77 | 24 => 50 | 0 => 0 | 3 => 3 | 37 => 99 | 48 => 123 | 50 => 94 | 4 => 4 | 40 => 116 | 39 => 115 | 45 => 57 | 5 => 5 | 9 => 9 | 51 => 135 | 55 => 139 | 57 => 146 | 58 => 147 | 33 => 35 | n => n, fun | n => n⟩
theorem Tryd.sorted40 : Go.Proofs.SlLaysZ.n6 Tryd.prog Tryd.sorted40_ren := {
  mixed := by kernel_rfl
  f6 := ⟨Tryd.f40.name, by decide, Tryd.func40.trans (congrArg some (by kernel_rfl))⟩
  f8 := ⟨Tryd.f50.name, by decide, Tryd.func50.trans (congrArg some (by kernel_rfl))⟩
  f11 := ⟨Tryd.f64.name, by decide, Tryd.func64.trans (congrArg some (by kernel_rfl))⟩
  t0 := Tryd.underlying0
  a0 := Tryd.isAgg0
  z0 := Tryd.sizeOf0
  v0 := Tryd.zeroValue0
  t24 := Tryd.underlying50
  a24 := Tryd.isAgg50
  z24 := Tryd.sizeOf50
  v24 := Tryd.zeroValue50
  t26 := Tryd.underlying9
  a26 := Tryd.isAgg9
  z26 := Tryd.sizeOf9
  v26 := Tryd.zeroValue9
  t28 := Tryd.underlying77
  a28 := Tryd.isAgg77
  z28 := Tryd.sizeOf77
  v28 := Tryd.zeroValue77
  i26 := by kernel_rfl }
def Tryd.sort51_ren : Go.Shelf.Ren := ⟨fun | 6 => 51 | 8 => 66 | 9 => 65 | 19 => 91 | 20 => 92 | 21 => 82 | 22 => 83 | 23 => 84 | 24 => 85 | 25 => 86 | 26 => 87 | 27 => 88 | 28 => 89 | 29 => 90 | 36 => 103 | 31 => 104 | 32 => 105 | 37 => 106 | 38 => 107 | 39 => 108 | 41 => 112 | n => n, fun | 27 => 50 | 29 => 9 | 3 => 3 | 32 => 99 | 26 => 50 | 0 => 0 | 44 => 123 | 46 => 94 | 4 => 4 | 36 => 116 | 35 => 115 | 41 => 57 | 5 => 5 | 9 => 9 | 53 => 135 | 57 => 139 | 63 => 146 | 64 => 147 | n => n, fun | n => n⟩
theorem Tryd.sort51 : Go.Proofs.SlLaysM.n6 Tryd.prog Tryd.sort51_ren := {
  mixed := by kernel_rfl
  f6 := ⟨Tryd.f51.name, by decide, Tryd.func51.trans (congrArg some (by kernel_rfl))⟩
  f8 := Tryd.func66.trans (congrArg some (by kernel_rfl))
  f9 := ⟨Tryd.f65.name, by decide, Tryd.func65.trans (congrArg some (by kernel_rfl))⟩
  f19 := Tryd.func91.trans (congrArg some (by kernel_rfl))
  f20 := Tryd.func92.trans (congrArg some (by kernel_rfl))
  f21 := ⟨Tryd.f82.name, by decide, Tryd.func82.trans (congrArg some (by kernel_rfl))⟩
  f22 := ⟨Tryd.f83.name, by decide, Tryd.func83.trans (congrArg some (by kernel_rfl))⟩
  f23 := ⟨Tryd.f84.name, by decide, Tryd.func84.trans (congrArg some (by kernel_rfl))⟩
  f24 := ⟨Tryd.f85.name, by decide, Tryd.func85.trans (congrArg some (by kernel_rfl))⟩
  f25 := ⟨Tryd.f86.name, by decide, Tryd.func86.trans (congrArg some (by kernel_rfl))⟩
  f26 := ⟨Tryd.f87.name, by decide, Tryd.func87.trans (congrArg some (by kernel_rfl))⟩
  f27 := ⟨Tryd.f88.name, by decide, Tryd.func88.trans (congrArg some (by kernel_rfl))⟩
  f28 := ⟨Tryd.f89.name, by decide, Tryd.func89.trans (congrArg some (by kernel_rfl))⟩
  f29 := ⟨Tryd.f90.name, by decide, Tryd.func90.trans (congrArg some (by kernel_rfl))⟩
  f31 := Tryd.func104.trans (congrArg some (by kernel_rfl))
  f32 := Tryd.func105.trans (congrArg some (by kernel_rfl))
  f36 := ⟨Tryd.f103.name, by decide, Tryd.func103.trans (congrArg some (by kernel_rfl))⟩
  f37 := ⟨Tryd.f106.name, by decide, Tryd.func106.trans (congrArg some (by kernel_rfl))⟩
  f38 := ⟨Tryd.f107.name, by decide, Tryd.func107.trans (congrArg some (by kernel_rfl))⟩
  f39 := ⟨Tryd.f108.name, by decide, Tryd.func108.trans (congrArg some (by kernel_rfl))⟩
  f41 := ⟨Tryd.f112.name, by decide, Tryd.func112.trans (congrArg some (by kernel_rfl))⟩
  t0 := Tryd.underlying0
  a0 := Tryd.isAgg0
  z0 := Tryd.sizeOf0
  v0 := Tryd.zeroValue0
  t3 := Tryd.underlying3
  a3 := Tryd.isAgg3
  z3 := Tryd.sizeOf3
  v3 := Tryd.zeroValue3
  t4 := Tryd.underlying4
  a4 := Tryd.isAgg4
  z4 := Tryd.sizeOf4
  v4 := Tryd.zeroValue4
  t5 := Tryd.underlying5
  a5 := Tryd.isAgg5
  z5 := Tryd.sizeOf5
  v5 := Tryd.zeroValue5
  t9 := Tryd.underlying9
  a9 := Tryd.isAgg9
  z9 := Tryd.sizeOf9
  v9 := Tryd.zeroValue9
  t26 := Tryd.underlying50
  a26 := Tryd.isAgg50
  z26 := Tryd.sizeOf50
  v26 := Tryd.zeroValue50
  t27 := Tryd.underlying50
  a27 := Tryd.isAgg50
  z27 := Tryd.sizeOf50
  v27 := Tryd.zeroValue50
  t29 := Tryd.underlying9
  a29 := Tryd.isAgg9
  z29 := Tryd.sizeOf9
  v29 := Tryd.zeroValue9
  t32 := Tryd.underlying99
  a32 := Tryd.isAgg99
  z32 := Tryd.sizeOf99
  v32 := Tryd.zeroValue99
  t35 := Tryd.underlying115
  a35 := Tryd.isAgg115
  z35 := Tryd.sizeOf115
  v35 := Tryd.zeroValue115
  t36 := Tryd.underlying116
  a36 := Tryd.isAgg116
  z36 := Tryd.sizeOf116
  v36 := Tryd.zeroValue116
  t41 := Tryd.underlying57
  a41 := Tryd.isAgg57
  z41 := Tryd.sizeOf57
  v41 := Tryd.zeroValue57
  t44 := Tryd.underlying123
  a44 := Tryd.isAgg123
  z44 := Tryd.sizeOf123
  v44 := Tryd.zeroValue123
  t46 := Tryd.underlying94
  a46 := Tryd.isAgg94
  z46 := Tryd.sizeOf94
  v46 := Tryd.zeroValue94
  t53 := Tryd.underlying135
  a53 := Tryd.isAgg135
  z53 := Tryd.sizeOf135
  v53 := Tryd.zeroValue135
  t57 := Tryd.underlying139
  a57 := Tryd.isAgg139
  z57 := Tryd.sizeOf139
  v57 := Tryd.zeroValue139
  t63 := Tryd.underlying146
  a63 := Tryd.isAgg146
  z63 := Tryd.sizeOf146
  v63 := Tryd.zeroValue146
  t64 := Tryd.underlying147
  a64 := Tryd.isAgg147
  z64 := Tryd.sizeOf147
  v64 := Tryd.zeroValue147 }
open Go.RowKit Go.Maps Go.Sort Go.Shelf


/-- slices.Sort's two contracts at this dump, at the fence that asks nothing. -/
theorem Tryd.sorts40 (m : Nat) : AnyZ.SortsIn Tryd.prog Tryd.sorted40_ren Fence.wide m :=
  ⟨fun blk off cap ss W hH hblk hsz => callsIn_wide.2 (AnyM.slices_Sort_string Tryd.sort51 blk off cap ss W hH hblk hsz),
   fun p cap W => callsIn_wide.2 (AnyM.slices_Sort_string_none Tryd.sort51 p cap W)⟩

/-- **maps.Keys[map[string]cicerone/clock.source,string,cicerone/clock.source], at whatever map, the nil one too:** a function value over ONE NEW BLOCK, which holds the map. -/
theorem Tryd.maps_Keys_41 (mb : Option Nat) (W : World) : CallsIn Fence.wide 5 Tryd.prog 41 #[.map mb] W fun e w' => e = .returned (.func (.func 52) #[] #[.pointer (some ⟨W.heap.size, 0, none⟩)]) ∧ w' = W.alloc (.cells #[.map mb] 44) :=
  AnyZ.keys_in Tryd.keys41 Fence.wide 5 trivial rfl mb W

set_option maxHeartbeats 1000000 in
/-- **slices.Sorted[string] AT WHAT maps.Keys[map[string]cicerone/clock.source,string,cicerone/clock.source] HANDED BACK FOR A MAP THAT IS NOT nil** ('w': the world AHEAD of maps.Keys' call): A NEW SLICE THAT HOLDS THE MAP's KEYS, SORTED; nil just where it has none; nothing that lay before has turned. -/
theorem Tryd.slices_Sorted_keys_40_41 {H : Type} (b nn : Nat) (D0 : DataW H) (R : Value → Option (DataW H × List MemPlace)) (w : World) (hown : w.ownsMap Tryd.prog 9 R b nn D0) (hmax : Maps.size D0 ≤ maxLen) (hbytes : Maps.size D0 * 16 ≤ 140737488355328) :
    CallsIn Fence.wide 5 Tryd.prog 40 #[.func (.func 52) #[] #[.pointer (some ⟨w.heap.size, 0, none⟩)]] (w.alloc (.cells #[.map (some b)] 44)) fun e w' => ∃ (v : Value) (ss : List (List UInt8)), e = .returned v ∧ ss.Perm (strKeys D0) ∧
      w'.ownsRow (w.alloc (.cells #[.map (some b)] 44)).heap.size 9 1 v ss.length ((ss.mergeSort (fun x y => decide (x ≤ y))).map encStr) ∧ (v = .slice none 0 0 ↔ ss = []) ∧ Below (w.alloc (.cells #[.map (some b)] 44)).heap.size (w.alloc (.cells #[.map (some b)] 44)) w' := by
  have hbl := hown.lt
  have hseq : SeqGives Fence.wide 2 Tryd.prog 52 #[.pointer (some ⟨w.heap.size, 0, none⟩)] encStr (fun ss => ss.Perm (strKeys D0)) (Maps.size D0) (w.alloc (.cells #[.map (some b)] 44)) :=
    AnyZ.keys_gives (ρ := Tryd.keys41_ren) { Tryd.keys41 with } Fence.wide _ trivial rfl (by omega) w.heap.size b nn D0 _ (by simp) (by simp) (by
      obtain ⟨es, clock, hb, Ft, hs, hD⟩ := hown
      exact ⟨es, clock, (Below.heap_alloc _ _ b hbl).trans hb, Ft, hs, hD⟩)
  exact AnyZ.sorted_in Tryd.sorted40 Fence.wide 5 trivial trivial trivial trivial rfl (by omega) (Tryd.sorts40 _) (enters_of Tryd.func51 (by kernel_rfl) rfl) 52 #[.pointer (some ⟨w.heap.size, 0, none⟩)] trivial (enters_of Tryd.func52 (by kernel_rfl) rfl) _ _ hmax hbytes _ hseq

set_option maxHeartbeats 1000000 in
/-- **.. AND FOR THE nil MAP: nil.** -/
theorem Tryd.slices_Sorted_keys_nil_40_41 (w : World) :
    CallsIn Fence.wide 5 Tryd.prog 40 #[.func (.func 52) #[] #[.pointer (some ⟨w.heap.size, 0, none⟩)]] (w.alloc (.cells #[.map none] 44)) fun e w' => ∃ (v : Value) (ss : List (List UInt8)), e = .returned v ∧ ss = [] ∧
      w'.ownsRow (w.alloc (.cells #[.map none] 44)).heap.size 9 1 v ss.length ((ss.mergeSort (fun x y => decide (x ≤ y))).map encStr) ∧ (v = .slice none 0 0 ↔ ss = []) ∧ Below (w.alloc (.cells #[.map none] 44)).heap.size (w.alloc (.cells #[.map none] 44)) w' := by
  have hseq : SeqGives Fence.wide 2 Tryd.prog 52 #[.pointer (some ⟨w.heap.size, 0, none⟩)] encStr (fun ss : List (List UInt8) => ss = []) 0 (w.alloc (.cells #[.map none] 44)) :=
    AnyZ.keys_gives_nil (ρ := Tryd.keys41_ren) { Tryd.keys41 with } Fence.wide _ trivial rfl w.heap.size _ (by simp) (by simp)
  exact AnyZ.sorted_in Tryd.sorted40 Fence.wide 5 trivial trivial trivial trivial rfl (by omega) (Tryd.sorts40 _) (enters_of Tryd.func51 (by kernel_rfl) rfl) 52 #[.pointer (some ⟨w.heap.size, 0, none⟩)] trivial (enters_of Tryd.func52 (by kernel_rfl) rfl) _ 0 (Nat.zero_le _) (by omega) _ hseq




end Go.Proofs
