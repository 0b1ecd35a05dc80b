/-
  DERIVED: THE SHELF's CONTRACTS AT THIS DUMP, IN PLAIN WORDS (tools/lay-plain.mjs out of 'TryzShelf.lean', which tools/lay-shelf.mjs wrote): THE SAME DECLARATIONS UNDER THE SAME NAMES: 'import', 'namespace', 'open', 'def', 'theorem' AND NOTHING ELSE: no command of the shelf's: FOR A HAND-IN. Each laying: the table of numbers ('.._ren') and one theorem, a field a fact of the dump's own or the kernel's comparison; each contract: ONE APPLICATION.
-/
import Derived.Shelf.SlIter.Nil
import Derived.Shelf.SortM.Plain
import Derived.Shelf.SortM.SortNone
import Derived.Ground.GgzProg
import Derived.Ground.SlgmProg
import Derived.Test.YtnpfaajhgghpgaaGreatDoorProg
namespace Go.Proofs
open Go.Shelf
def Tryz.keys104_ren : Go.Shelf.Ren := ⟨fun | 7 => 104 | 10 => 126 | n => n, fun | 23 => 67 | 26 => 9 | 3 => 4 | 28 => 186 | 0 => 0 | 27 => 185 | 33 => 113 | 4 => 4 | n => n, fun | n => n⟩
theorem Tryz.keys104 : Go.Proofs.SlLaysZ.n7 Tryz.prog Tryz.keys104_ren := {
  mixed := by kernel_rfl
  f7 := ⟨Tryz.f104.name, by decide, Tryz.func104.trans (congrArg some (by kernel_rfl))⟩
  f10 := ⟨Tryz.f126.name, by decide, Tryz.func126.trans (congrArg some (by kernel_rfl))⟩
  t0 := Tryz.underlying0
  a0 := Tryz.isAgg0
  z0 := Tryz.sizeOf0
  v0 := Tryz.zeroValue0
  t4 := Tryz.underlying4
  a4 := Tryz.isAgg4
  z4 := Tryz.sizeOf4
  v4 := Tryz.zeroValue4
  t23 := Tryz.underlying67
  a23 := Tryz.isAgg67
  z23 := Tryz.sizeOf67
  v23 := Tryz.zeroValue67
  t26 := Tryz.underlying9
  a26 := Tryz.isAgg9
  z26 := Tryz.sizeOf9
  v26 := Tryz.zeroValue9
  t27 := Tryz.underlying185
  a27 := Tryz.isAgg185
  z27 := Tryz.sizeOf185
  v27 := Tryz.zeroValue185
  t28 := Tryz.underlying186
  a28 := Tryz.isAgg186
  z28 := Tryz.sizeOf186
  v28 := Tryz.zeroValue186
  t33 := Tryz.underlying113
  a33 := Tryz.isAgg113
  z33 := Tryz.sizeOf113
  v33 := Tryz.zeroValue113 }
def Tryz.sorted103_ren : Go.Shelf.Ren := ⟨fun | 6 => 103 | 8 => 124 | 9 => 125 | 11 => 137 | 13 => 139 | 12 => 138 | 23 => 162 | 24 => 163 | 14 => 153 | 15 => 154 | 16 => 155 | 17 => 156 | 18 => 157 | 19 => 158 | 20 => 159 | 21 => 160 | 22 => 161 | 25 => 175 | 26 => 176 | 27 => 177 | 28 => 178 | 29 => 179 | 30 => 180 | 31 => 189 | n => n, fun | 26 => 9 | 28 => 186 | 24 => 36 | 0 => 0 | 3 => 3 | 37 => 217 | 48 => 259 | 50 => 30 | 4 => 4 | 40 => 252 | 39 => 251 | 45 => 256 | 5 => 5 | 9 => 9 | 51 => 268 | 55 => 272 | 57 => 280 | 58 => 281 | 33 => 113 | n => n, fun | n => n⟩
theorem Tryz.sorted103 : Go.Proofs.SlLaysZ.n6 Tryz.prog Tryz.sorted103_ren := {
  mixed := by kernel_rfl
  f6 := ⟨Tryz.f103.name, by decide, Tryz.func103.trans (congrArg some (by kernel_rfl))⟩
  f8 := ⟨Tryz.f124.name, by decide, Tryz.func124.trans (congrArg some (by kernel_rfl))⟩
  f11 := ⟨Tryz.f137.name, by decide, Tryz.func137.trans (congrArg some (by kernel_rfl))⟩
  t0 := Tryz.underlying0
  a0 := Tryz.isAgg0
  z0 := Tryz.sizeOf0
  v0 := Tryz.zeroValue0
  t24 := Tryz.underlying36
  a24 := Tryz.isAgg36
  z24 := Tryz.sizeOf36
  v24 := Tryz.zeroValue36
  t26 := Tryz.underlying9
  a26 := Tryz.isAgg9
  z26 := Tryz.sizeOf9
  v26 := Tryz.zeroValue9
  t28 := Tryz.underlying186
  a28 := Tryz.isAgg186
  z28 := Tryz.sizeOf186
  v28 := Tryz.zeroValue186
  i26 := by kernel_rfl }
def Tryz.sort125_ren : Go.Shelf.Ren := ⟨fun | 6 => 125 | 8 => 139 | 9 => 138 | 19 => 162 | 20 => 163 | 21 => 153 | 22 => 154 | 23 => 155 | 24 => 156 | 25 => 157 | 26 => 158 | 27 => 159 | 28 => 160 | 29 => 161 | 36 => 175 | 31 => 176 | 32 => 177 | 37 => 178 | 38 => 179 | 39 => 180 | 41 => 189 | n => n, fun | 27 => 36 | 29 => 9 | 3 => 3 | 32 => 217 | 26 => 36 | 0 => 0 | 44 => 259 | 46 => 30 | 4 => 4 | 36 => 252 | 35 => 251 | 41 => 256 | 5 => 5 | 9 => 9 | 53 => 268 | 57 => 272 | 63 => 280 | 64 => 281 | n => n, fun | n => n⟩
theorem Tryz.sort125 : Go.Proofs.SlLaysM.n6 Tryz.prog Tryz.sort125_ren := {
  mixed := by kernel_rfl
  f6 := ⟨Tryz.f125.name, by decide, Tryz.func125.trans (congrArg some (by kernel_rfl))⟩
  f8 := Tryz.func139.trans (congrArg some (by kernel_rfl))
  f9 := ⟨Tryz.f138.name, by decide, Tryz.func138.trans (congrArg some (by kernel_rfl))⟩
  f19 := Tryz.func162.trans (congrArg some (by kernel_rfl))
  f20 := Tryz.func163.trans (congrArg some (by kernel_rfl))
  f21 := ⟨Tryz.f153.name, by decide, Tryz.func153.trans (congrArg some (by kernel_rfl))⟩
  f22 := ⟨Tryz.f154.name, by decide, Tryz.func154.trans (congrArg some (by kernel_rfl))⟩
  f23 := ⟨Tryz.f155.name, by decide, Tryz.func155.trans (congrArg some (by kernel_rfl))⟩
  f24 := ⟨Tryz.f156.name, by decide, Tryz.func156.trans (congrArg some (by kernel_rfl))⟩
  f25 := ⟨Tryz.f157.name, by decide, Tryz.func157.trans (congrArg some (by kernel_rfl))⟩
  f26 := ⟨Tryz.f158.name, by decide, Tryz.func158.trans (congrArg some (by kernel_rfl))⟩
  f27 := ⟨Tryz.f159.name, by decide, Tryz.func159.trans (congrArg some (by kernel_rfl))⟩
  f28 := ⟨Tryz.f160.name, by decide, Tryz.func160.trans (congrArg some (by kernel_rfl))⟩
  f29 := ⟨Tryz.f161.name, by decide, Tryz.func161.trans (congrArg some (by kernel_rfl))⟩
  f31 := Tryz.func176.trans (congrArg some (by kernel_rfl))
  f32 := Tryz.func177.trans (congrArg some (by kernel_rfl))
  f36 := ⟨Tryz.f175.name, by decide, Tryz.func175.trans (congrArg some (by kernel_rfl))⟩
  f37 := ⟨Tryz.f178.name, by decide, Tryz.func178.trans (congrArg some (by kernel_rfl))⟩
  f38 := ⟨Tryz.f179.name, by decide, Tryz.func179.trans (congrArg some (by kernel_rfl))⟩
  f39 := ⟨Tryz.f180.name, by decide, Tryz.func180.trans (congrArg some (by kernel_rfl))⟩
  f41 := ⟨Tryz.f189.name, by decide, Tryz.func189.trans (congrArg some (by kernel_rfl))⟩
  t0 := Tryz.underlying0
  a0 := Tryz.isAgg0
  z0 := Tryz.sizeOf0
  v0 := Tryz.zeroValue0
  t3 := Tryz.underlying3
  a3 := Tryz.isAgg3
  z3 := Tryz.sizeOf3
  v3 := Tryz.zeroValue3
  t4 := Tryz.underlying4
  a4 := Tryz.isAgg4
  z4 := Tryz.sizeOf4
  v4 := Tryz.zeroValue4
  t5 := Tryz.underlying5
  a5 := Tryz.isAgg5
  z5 := Tryz.sizeOf5
  v5 := Tryz.zeroValue5
  t9 := Tryz.underlying9
  a9 := Tryz.isAgg9
  z9 := Tryz.sizeOf9
  v9 := Tryz.zeroValue9
  t26 := Tryz.underlying36
  a26 := Tryz.isAgg36
  z26 := Tryz.sizeOf36
  v26 := Tryz.zeroValue36
  t27 := Tryz.underlying36
  a27 := Tryz.isAgg36
  z27 := Tryz.sizeOf36
  v27 := Tryz.zeroValue36
  t29 := Tryz.underlying9
  a29 := Tryz.isAgg9
  z29 := Tryz.sizeOf9
  v29 := Tryz.zeroValue9
  t32 := Tryz.underlying217
  a32 := Tryz.isAgg217
  z32 := Tryz.sizeOf217
  v32 := Tryz.zeroValue217
  t35 := Tryz.underlying251
  a35 := Tryz.isAgg251
  z35 := Tryz.sizeOf251
  v35 := Tryz.zeroValue251
  t36 := Tryz.underlying252
  a36 := Tryz.isAgg252
  z36 := Tryz.sizeOf252
  v36 := Tryz.zeroValue252
  t41 := Tryz.underlying256
  a41 := Tryz.isAgg256
  z41 := Tryz.sizeOf256
  v41 := Tryz.zeroValue256
  t44 := Tryz.underlying259
  a44 := Tryz.isAgg259
  z44 := Tryz.sizeOf259
  v44 := Tryz.zeroValue259
  t46 := Tryz.underlying30
  a46 := Tryz.isAgg30
  z46 := Tryz.sizeOf30
  v46 := Tryz.zeroValue30
  t53 := Tryz.underlying268
  a53 := Tryz.isAgg268
  z53 := Tryz.sizeOf268
  v53 := Tryz.zeroValue268
  t57 := Tryz.underlying272
  a57 := Tryz.isAgg272
  z57 := Tryz.sizeOf272
  v57 := Tryz.zeroValue272
  t63 := Tryz.underlying280
  a63 := Tryz.isAgg280
  z63 := Tryz.sizeOf280
  v63 := Tryz.zeroValue280
  t64 := Tryz.underlying281
  a64 := Tryz.isAgg281
  z64 := Tryz.sizeOf281
  v64 := Tryz.zeroValue281 }
open Go.RowKit Go.Maps Go.Sort Go.Shelf


/-- slices.Sort's two contracts at this dump, at the fence that asks nothing. -/
theorem Tryz.sorts103 (m : Nat) : AnyZ.SortsIn Tryz.prog Tryz.sorted103_ren Fence.wide m :=
  ⟨fun blk off cap ss W hH hblk hsz => callsIn_wide.2 (AnyM.slices_Sort_string Tryz.sort125 blk off cap ss W hH hblk hsz),
   fun p cap W => callsIn_wide.2 (AnyM.slices_Sort_string_none Tryz.sort125 p cap W)⟩

/-- **maps.Keys[map[string]bool,string,bool], at whatever map, the nil one too:** a function value over ONE NEW BLOCK, which holds the map. -/
theorem Tryz.maps_Keys_104 (mb : Option Nat) (W : World) : CallsIn Fence.wide 5 Tryz.prog 104 #[.map mb] W fun e w' => e = .returned (.func (.func 126) #[] #[.pointer (some ⟨W.heap.size, 0, none⟩)]) ∧ w' = W.alloc (.cells #[.map mb] 67) :=
  AnyZ.keys_in Tryz.keys104 Fence.wide 5 trivial rfl mb W

set_option maxHeartbeats 1000000 in
/-- **slices.Sorted[string] AT WHAT maps.Keys[map[string]bool,string,bool] HANDED BACK FOR A MAP THAT IS NOT nil** ('w': the world AHEAD of maps.Keys' call): A NEW SLICE THAT HOLDS THE MAP's KEYS, SORTED; nil just where it has none; nothing that lay before has turned. -/
theorem Tryz.slices_Sorted_keys_103_104 {H : Type} (b nn : Nat) (D0 : DataW H) (R : Value → Option (DataW H × List MemPlace)) (w : World) (hown : w.ownsMap Tryz.prog 9 R b nn D0) (hmax : Maps.size D0 ≤ maxLen) (hbytes : Maps.size D0 * 16 ≤ 140737488355328) :
    CallsIn Fence.wide 5 Tryz.prog 103 #[.func (.func 126) #[] #[.pointer (some ⟨w.heap.size, 0, none⟩)]] (w.alloc (.cells #[.map (some b)] 67)) fun e w' => ∃ (v : Value) (ss : List (List UInt8)), e = .returned v ∧ ss.Perm (strKeys D0) ∧
      w'.ownsRow (w.alloc (.cells #[.map (some b)] 67)).heap.size 9 1 v ss.length ((ss.mergeSort (fun x y => decide (x ≤ y))).map encStr) ∧ (v = .slice none 0 0 ↔ ss = []) ∧ Below (w.alloc (.cells #[.map (some b)] 67)).heap.size (w.alloc (.cells #[.map (some b)] 67)) w' := by
  have hbl := hown.lt
  have hseq : SeqGives Fence.wide 2 Tryz.prog 126 #[.pointer (some ⟨w.heap.size, 0, none⟩)] encStr (fun ss => ss.Perm (strKeys D0)) (Maps.size D0) (w.alloc (.cells #[.map (some b)] 67)) :=
    AnyZ.keys_gives (ρ := Tryz.keys104_ren) { Tryz.keys104 with } Fence.wide _ trivial rfl (by omega) w.heap.size b nn D0 _ (by simp) (by simp) (by
      obtain ⟨es, clock, hb, Ft, hs, hD⟩ := hown
      exact ⟨es, clock, (Below.heap_alloc _ _ b hbl).trans hb, Ft, hs, hD⟩)
  exact AnyZ.sorted_in Tryz.sorted103 Fence.wide 5 trivial trivial trivial trivial rfl (by omega) (Tryz.sorts103 _) (enters_of Tryz.func125 (by kernel_rfl) rfl) 126 #[.pointer (some ⟨w.heap.size, 0, none⟩)] trivial (enters_of Tryz.func126 (by kernel_rfl) rfl) _ _ hmax hbytes _ hseq

set_option maxHeartbeats 1000000 in
/-- **.. AND FOR THE nil MAP: nil.** -/
theorem Tryz.slices_Sorted_keys_nil_103_104 (w : World) :
    CallsIn Fence.wide 5 Tryz.prog 103 #[.func (.func 126) #[] #[.pointer (some ⟨w.heap.size, 0, none⟩)]] (w.alloc (.cells #[.map none] 67)) fun e w' => ∃ (v : Value) (ss : List (List UInt8)), e = .returned v ∧ ss = [] ∧
      w'.ownsRow (w.alloc (.cells #[.map none] 67)).heap.size 9 1 v ss.length ((ss.mergeSort (fun x y => decide (x ≤ y))).map encStr) ∧ (v = .slice none 0 0 ↔ ss = []) ∧ Below (w.alloc (.cells #[.map none] 67)).heap.size (w.alloc (.cells #[.map none] 67)) w' := by
  have hseq : SeqGives Fence.wide 2 Tryz.prog 126 #[.pointer (some ⟨w.heap.size, 0, none⟩)] encStr (fun ss : List (List UInt8) => ss = []) 0 (w.alloc (.cells #[.map none] 67)) :=
    AnyZ.keys_gives_nil (ρ := Tryz.keys104_ren) { Tryz.keys104 with } Fence.wide _ trivial rfl w.heap.size _ (by simp) (by simp)
  exact AnyZ.sorted_in Tryz.sorted103 Fence.wide 5 trivial trivial trivial trivial rfl (by omega) (Tryz.sorts103 _) (enters_of Tryz.func125 (by kernel_rfl) rfl) 126 #[.pointer (some ⟨w.heap.size, 0, none⟩)] trivial (enters_of Tryz.func126 (by kernel_rfl) rfl) _ 0 (Nat.zero_le _) (by omega) _ hseq




end Go.Proofs
