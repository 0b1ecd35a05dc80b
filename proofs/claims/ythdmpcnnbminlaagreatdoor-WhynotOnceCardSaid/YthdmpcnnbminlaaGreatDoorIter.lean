/-
  DERIVED: THE SHELF's CONTRACTS AT THIS DUMP, IN PLAIN WORDS (tools/lay-plain.mjs out of 'TryzShelf.lean', which tools/lay-shelf.mjs wrote): THE SAME DECLARATIONS UNDER THE SAME NAMES: 'import', 'namespace', 'open', 'def', 'theorem' AND NOTHING ELSE: no command of the shelf's: FOR A HAND-IN. Each laying: the table of numbers ('.._ren') and one theorem, a field a fact of the dump's own or the kernel's comparison; each contract: ONE APPLICATION.
-/
import Derived.Shelf.SlIter.Nil
import Derived.Shelf.SortM.Plain
import Derived.Shelf.SortM.SortNone
import Derived.Ground.GgzProg
import Derived.Ground.SlgmProg
import Derived.Test.YthdmpcnnbminlaaGreatDoorProg
namespace Go.Proofs
open Go.Shelf
def Tryz.keys110_ren : Go.Shelf.Ren := ⟨fun | 7 => 110 | 10 => 164 | n => n, fun | 23 => 105 | 26 => 9 | 3 => 4 | 28 => 189 | 0 => 0 | 27 => 188 | 33 => 150 | 4 => 4 | n => n, fun | n => n⟩
theorem Tryz.keys110 : Go.Proofs.SlLaysZ.n7 Tryz.prog Tryz.keys110_ren := {
  mixed := by kernel_rfl
  f7 := ⟨Tryz.f110.name, by decide, Tryz.func110.trans (congrArg some (by kernel_rfl))⟩
  f10 := ⟨Tryz.f164.name, by decide, Tryz.func164.trans (congrArg some (by kernel_rfl))⟩
  t0 := Tryz.underlying0
  a0 := Tryz.isAgg0
  z0 := Tryz.sizeOf0
  v0 := Tryz.zeroValue0
  t4 := Tryz.underlying4
  a4 := Tryz.isAgg4
  z4 := Tryz.sizeOf4
  v4 := Tryz.zeroValue4
  t23 := Tryz.underlying105
  a23 := Tryz.isAgg105
  z23 := Tryz.sizeOf105
  v23 := Tryz.zeroValue105
  t26 := Tryz.underlying9
  a26 := Tryz.isAgg9
  z26 := Tryz.sizeOf9
  v26 := Tryz.zeroValue9
  t27 := Tryz.underlying188
  a27 := Tryz.isAgg188
  z27 := Tryz.sizeOf188
  v27 := Tryz.zeroValue188
  t28 := Tryz.underlying189
  a28 := Tryz.isAgg189
  z28 := Tryz.sizeOf189
  v28 := Tryz.zeroValue189
  t33 := Tryz.underlying150
  a33 := Tryz.isAgg150
  z33 := Tryz.sizeOf150
  v33 := Tryz.zeroValue150 }
def Tryz.sorted109_ren : Go.Shelf.Ren := ⟨fun | 6 => 109 | 8 => 163 | 9 => 108 | 11 => 199 | 13 => 162 | 12 => 161 | 23 => 197 | 24 => 198 | 14 => 188 | 15 => 189 | 16 => 190 | 17 => 191 | 18 => 192 | 19 => 193 | 20 => 194 | 21 => 195 | 22 => 196 | 25 => 213 | 26 => 214 | 27 => 215 | 28 => 216 | 29 => 217 | 30 => 218 | 31 => 230 | n => n, fun | 26 => 9 | 28 => 189 | 24 => 50 | 0 => 0 | 3 => 3 | 37 => 183 | 48 => 273 | 50 => 78 | 4 => 4 | 40 => 266 | 39 => 265 | 45 => 270 | 5 => 5 | 9 => 9 | 51 => 289 | 55 => 293 | 57 => 302 | 58 => 303 | 33 => 150 | n => n, fun | n => n⟩
theorem Tryz.sorted109 : Go.Proofs.SlLaysZ.n6 Tryz.prog Tryz.sorted109_ren := {
  mixed := by kernel_rfl
  f6 := ⟨Tryz.f109.name, by decide, Tryz.func109.trans (congrArg some (by kernel_rfl))⟩
  f8 := ⟨Tryz.f163.name, by decide, Tryz.func163.trans (congrArg some (by kernel_rfl))⟩
  f11 := ⟨Tryz.f199.name, by decide, Tryz.func199.trans (congrArg some (by kernel_rfl))⟩
  t0 := Tryz.underlying0
  a0 := Tryz.isAgg0
  z0 := Tryz.sizeOf0
  v0 := Tryz.zeroValue0
  t24 := Tryz.underlying50
  a24 := Tryz.isAgg50
  z24 := Tryz.sizeOf50
  v24 := Tryz.zeroValue50
  t26 := Tryz.underlying9
  a26 := Tryz.isAgg9
  z26 := Tryz.sizeOf9
  v26 := Tryz.zeroValue9
  t28 := Tryz.underlying189
  a28 := Tryz.isAgg189
  z28 := Tryz.sizeOf189
  v28 := Tryz.zeroValue189
  i26 := by kernel_rfl }
def Tryz.sort108_ren : Go.Shelf.Ren := ⟨fun | 6 => 108 | 8 => 162 | 9 => 161 | 19 => 197 | 20 => 198 | 21 => 188 | 22 => 189 | 23 => 190 | 24 => 191 | 25 => 192 | 26 => 193 | 27 => 194 | 28 => 195 | 29 => 196 | 36 => 213 | 31 => 214 | 32 => 215 | 37 => 216 | 38 => 217 | 39 => 218 | 41 => 230 | n => n, fun | 27 => 50 | 29 => 9 | 3 => 3 | 32 => 183 | 26 => 50 | 0 => 0 | 44 => 273 | 46 => 78 | 4 => 4 | 36 => 266 | 35 => 265 | 41 => 270 | 5 => 5 | 9 => 9 | 53 => 289 | 57 => 293 | 63 => 302 | 64 => 303 | n => n, fun | n => n⟩
theorem Tryz.sort108 : Go.Proofs.SlLaysM.n6 Tryz.prog Tryz.sort108_ren := {
  mixed := by kernel_rfl
  f6 := ⟨Tryz.f108.name, by decide, Tryz.func108.trans (congrArg some (by kernel_rfl))⟩
  f8 := Tryz.func162.trans (congrArg some (by kernel_rfl))
  f9 := ⟨Tryz.f161.name, by decide, Tryz.func161.trans (congrArg some (by kernel_rfl))⟩
  f19 := Tryz.func197.trans (congrArg some (by kernel_rfl))
  f20 := Tryz.func198.trans (congrArg some (by kernel_rfl))
  f21 := ⟨Tryz.f188.name, by decide, Tryz.func188.trans (congrArg some (by kernel_rfl))⟩
  f22 := ⟨Tryz.f189.name, by decide, Tryz.func189.trans (congrArg some (by kernel_rfl))⟩
  f23 := ⟨Tryz.f190.name, by decide, Tryz.func190.trans (congrArg some (by kernel_rfl))⟩
  f24 := ⟨Tryz.f191.name, by decide, Tryz.func191.trans (congrArg some (by kernel_rfl))⟩
  f25 := ⟨Tryz.f192.name, by decide, Tryz.func192.trans (congrArg some (by kernel_rfl))⟩
  f26 := ⟨Tryz.f193.name, by decide, Tryz.func193.trans (congrArg some (by kernel_rfl))⟩
  f27 := ⟨Tryz.f194.name, by decide, Tryz.func194.trans (congrArg some (by kernel_rfl))⟩
  f28 := ⟨Tryz.f195.name, by decide, Tryz.func195.trans (congrArg some (by kernel_rfl))⟩
  f29 := ⟨Tryz.f196.name, by decide, Tryz.func196.trans (congrArg some (by kernel_rfl))⟩
  f31 := Tryz.func214.trans (congrArg some (by kernel_rfl))
  f32 := Tryz.func215.trans (congrArg some (by kernel_rfl))
  f36 := ⟨Tryz.f213.name, by decide, Tryz.func213.trans (congrArg some (by kernel_rfl))⟩
  f37 := ⟨Tryz.f216.name, by decide, Tryz.func216.trans (congrArg some (by kernel_rfl))⟩
  f38 := ⟨Tryz.f217.name, by decide, Tryz.func217.trans (congrArg some (by kernel_rfl))⟩
  f39 := ⟨Tryz.f218.name, by decide, Tryz.func218.trans (congrArg some (by kernel_rfl))⟩
  f41 := ⟨Tryz.f230.name, by decide, Tryz.func230.trans (congrArg some (by kernel_rfl))⟩
  t0 := Tryz.underlying0
  a0 := Tryz.isAgg0
  z0 := Tryz.sizeOf0
  v0 := Tryz.zeroValue0
  t3 := Tryz.underlying3
  a3 := Tryz.isAgg3
  z3 := Tryz.sizeOf3
  v3 := Tryz.zeroValue3
  t4 := Tryz.underlying4
  a4 := Tryz.isAgg4
  z4 := Tryz.sizeOf4
  v4 := Tryz.zeroValue4
  t5 := Tryz.underlying5
  a5 := Tryz.isAgg5
  z5 := Tryz.sizeOf5
  v5 := Tryz.zeroValue5
  t9 := Tryz.underlying9
  a9 := Tryz.isAgg9
  z9 := Tryz.sizeOf9
  v9 := Tryz.zeroValue9
  t26 := Tryz.underlying50
  a26 := Tryz.isAgg50
  z26 := Tryz.sizeOf50
  v26 := Tryz.zeroValue50
  t27 := Tryz.underlying50
  a27 := Tryz.isAgg50
  z27 := Tryz.sizeOf50
  v27 := Tryz.zeroValue50
  t29 := Tryz.underlying9
  a29 := Tryz.isAgg9
  z29 := Tryz.sizeOf9
  v29 := Tryz.zeroValue9
  t32 := Tryz.underlying183
  a32 := Tryz.isAgg183
  z32 := Tryz.sizeOf183
  v32 := Tryz.zeroValue183
  t35 := Tryz.underlying265
  a35 := Tryz.isAgg265
  z35 := Tryz.sizeOf265
  v35 := Tryz.zeroValue265
  t36 := Tryz.underlying266
  a36 := Tryz.isAgg266
  z36 := Tryz.sizeOf266
  v36 := Tryz.zeroValue266
  t41 := Tryz.underlying270
  a41 := Tryz.isAgg270
  z41 := Tryz.sizeOf270
  v41 := Tryz.zeroValue270
  t44 := Tryz.underlying273
  a44 := Tryz.isAgg273
  z44 := Tryz.sizeOf273
  v44 := Tryz.zeroValue273
  t46 := Tryz.underlying78
  a46 := Tryz.isAgg78
  z46 := Tryz.sizeOf78
  v46 := Tryz.zeroValue78
  t53 := Tryz.underlying289
  a53 := Tryz.isAgg289
  z53 := Tryz.sizeOf289
  v53 := Tryz.zeroValue289
  t57 := Tryz.underlying293
  a57 := Tryz.isAgg293
  z57 := Tryz.sizeOf293
  v57 := Tryz.zeroValue293
  t63 := Tryz.underlying302
  a63 := Tryz.isAgg302
  z63 := Tryz.sizeOf302
  v63 := Tryz.zeroValue302
  t64 := Tryz.underlying303
  a64 := Tryz.isAgg303
  z64 := Tryz.sizeOf303
  v64 := Tryz.zeroValue303 }
open Go.RowKit Go.Maps Go.Sort Go.Shelf


/-- slices.Sort's two contracts at this dump, at the fence that asks nothing. -/
theorem Tryz.sorts109 (m : Nat) : AnyZ.SortsIn Tryz.prog Tryz.sorted109_ren Fence.wide m :=
  ⟨fun blk off cap ss W hH hblk hsz => callsIn_wide.2 (AnyM.slices_Sort_string Tryz.sort108 blk off cap ss W hH hblk hsz),
   fun p cap W => callsIn_wide.2 (AnyM.slices_Sort_string_none Tryz.sort108 p cap W)⟩

/-- **maps.Keys[map[string]bool,string,bool], at whatever map, the nil one too:** a function value over ONE NEW BLOCK, which holds the map. -/
theorem Tryz.maps_Keys_110 (mb : Option Nat) (W : World) : CallsIn Fence.wide 5 Tryz.prog 110 #[.map mb] W fun e w' => e = .returned (.func (.func 164) #[] #[.pointer (some ⟨W.heap.size, 0, none⟩)]) ∧ w' = W.alloc (.cells #[.map mb] 105) :=
  AnyZ.keys_in Tryz.keys110 Fence.wide 5 trivial rfl mb W

set_option maxHeartbeats 1000000 in
/-- **slices.Sorted[string] AT WHAT maps.Keys[map[string]bool,string,bool] HANDED BACK FOR A MAP THAT IS NOT nil** ('w': the world AHEAD of maps.Keys' call): A NEW SLICE THAT HOLDS THE MAP's KEYS, SORTED; nil just where it has none; nothing that lay before has turned. -/
theorem Tryz.slices_Sorted_keys_109_110 {H : Type} (b nn : Nat) (D0 : DataW H) (R : Value → Option (DataW H × List MemPlace)) (w : World) (hown : w.ownsMap Tryz.prog 9 R b nn D0) (hmax : Maps.size D0 ≤ maxLen) (hbytes : Maps.size D0 * 16 ≤ 140737488355328) :
    CallsIn Fence.wide 5 Tryz.prog 109 #[.func (.func 164) #[] #[.pointer (some ⟨w.heap.size, 0, none⟩)]] (w.alloc (.cells #[.map (some b)] 105)) fun e w' => ∃ (v : Value) (ss : List (List UInt8)), e = .returned v ∧ ss.Perm (strKeys D0) ∧
      w'.ownsRow (w.alloc (.cells #[.map (some b)] 105)).heap.size 9 1 v ss.length ((ss.mergeSort (fun x y => decide (x ≤ y))).map encStr) ∧ (v = .slice none 0 0 ↔ ss = []) ∧ Below (w.alloc (.cells #[.map (some b)] 105)).heap.size (w.alloc (.cells #[.map (some b)] 105)) w' := by
  have hbl := hown.lt
  have hseq : SeqGives Fence.wide 2 Tryz.prog 164 #[.pointer (some ⟨w.heap.size, 0, none⟩)] encStr (fun ss => ss.Perm (strKeys D0)) (Maps.size D0) (w.alloc (.cells #[.map (some b)] 105)) :=
    AnyZ.keys_gives (ρ := Tryz.keys110_ren) { Tryz.keys110 with } Fence.wide _ trivial rfl (by omega) w.heap.size b nn D0 _ (by simp) (by simp) (by
      obtain ⟨es, clock, hb, Ft, hs, hD⟩ := hown
      exact ⟨es, clock, (Below.heap_alloc _ _ b hbl).trans hb, Ft, hs, hD⟩)
  exact AnyZ.sorted_in Tryz.sorted109 Fence.wide 5 trivial trivial trivial trivial rfl (by omega) (Tryz.sorts109 _) (enters_of Tryz.func108 (by kernel_rfl) rfl) 164 #[.pointer (some ⟨w.heap.size, 0, none⟩)] trivial (enters_of Tryz.func164 (by kernel_rfl) rfl) _ _ hmax hbytes _ hseq

set_option maxHeartbeats 1000000 in
/-- **.. AND FOR THE nil MAP: nil.** -/
theorem Tryz.slices_Sorted_keys_nil_109_110 (w : World) :
    CallsIn Fence.wide 5 Tryz.prog 109 #[.func (.func 164) #[] #[.pointer (some ⟨w.heap.size, 0, none⟩)]] (w.alloc (.cells #[.map none] 105)) fun e w' => ∃ (v : Value) (ss : List (List UInt8)), e = .returned v ∧ ss = [] ∧
      w'.ownsRow (w.alloc (.cells #[.map none] 105)).heap.size 9 1 v ss.length ((ss.mergeSort (fun x y => decide (x ≤ y))).map encStr) ∧ (v = .slice none 0 0 ↔ ss = []) ∧ Below (w.alloc (.cells #[.map none] 105)).heap.size (w.alloc (.cells #[.map none] 105)) w' := by
  have hseq : SeqGives Fence.wide 2 Tryz.prog 164 #[.pointer (some ⟨w.heap.size, 0, none⟩)] encStr (fun ss : List (List UInt8) => ss = []) 0 (w.alloc (.cells #[.map none] 105)) :=
    AnyZ.keys_gives_nil (ρ := Tryz.keys110_ren) { Tryz.keys110 with } Fence.wide _ trivial rfl w.heap.size _ (by simp) (by simp)
  exact AnyZ.sorted_in Tryz.sorted109 Fence.wide 5 trivial trivial trivial trivial rfl (by omega) (Tryz.sorts109 _) (enters_of Tryz.func108 (by kernel_rfl) rfl) 164 #[.pointer (some ⟨w.heap.size, 0, none⟩)] trivial (enters_of Tryz.func164 (by kernel_rfl) rfl) _ 0 (Nat.zero_le _) (by omega) _ hseq




end Go.Proofs
