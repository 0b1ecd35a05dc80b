/-
  DERIVED: THE SHELF's CONTRACTS AT THIS DUMP, IN PLAIN WORDS (tools/lay-plain.mjs out of 'TryzShelf.lean', which tools/lay-shelf.mjs wrote): THE SAME DECLARATIONS UNDER THE SAME NAMES: 'import', 'namespace', 'open', 'def', 'theorem' AND NOTHING ELSE: no command of the shelf's: FOR A HAND-IN. Each laying: the table of numbers ('.._ren') and one theorem, a field a fact of the dump's own or the kernel's comparison; each contract: ONE APPLICATION.
-/
import Derived.Shelf.SlIter.Nil
import Derived.Shelf.SortM.Plain
import Derived.Shelf.SortM.SortNone
import Derived.Ground.GgzProg
import Derived.Ground.SlgmProg
import Derived.Test.YtphmhbcimhlcjaaGreatDoorProg
namespace Go.Proofs
open Go.Shelf
def Tryz.keys135_ren : Go.Shelf.Ren := ⟨fun | 7 => 135 | 10 => 159 | n => n, fun | 23 => 71 | 26 => 9 | 3 => 4 | 28 => 210 | 0 => 0 | 27 => 209 | 33 => 87 | 4 => 4 | n => n, fun | n => n⟩
theorem Tryz.keys135 : Go.Proofs.SlLaysZ.n7 Tryz.prog Tryz.keys135_ren := {
  mixed := by kernel_rfl
  f7 := ⟨Tryz.f135.name, by decide, Tryz.func135.trans (congrArg some (by kernel_rfl))⟩
  f10 := ⟨Tryz.f159.name, by decide, Tryz.func159.trans (congrArg some (by kernel_rfl))⟩
  t0 := Tryz.underlying0
  a0 := Tryz.isAgg0
  z0 := Tryz.sizeOf0
  v0 := Tryz.zeroValue0
  t4 := Tryz.underlying4
  a4 := Tryz.isAgg4
  z4 := Tryz.sizeOf4
  v4 := Tryz.zeroValue4
  t23 := Tryz.underlying71
  a23 := Tryz.isAgg71
  z23 := Tryz.sizeOf71
  v23 := Tryz.zeroValue71
  t26 := Tryz.underlying9
  a26 := Tryz.isAgg9
  z26 := Tryz.sizeOf9
  v26 := Tryz.zeroValue9
  t27 := Tryz.underlying209
  a27 := Tryz.isAgg209
  z27 := Tryz.sizeOf209
  v27 := Tryz.zeroValue209
  t28 := Tryz.underlying210
  a28 := Tryz.isAgg210
  z28 := Tryz.sizeOf210
  v28 := Tryz.zeroValue210
  t33 := Tryz.underlying87
  a33 := Tryz.isAgg87
  z33 := Tryz.sizeOf87
  v33 := Tryz.zeroValue87 }
def Tryz.sorted134_ren : Go.Shelf.Ren := ⟨fun | 6 => 134 | 8 => 157 | 9 => 158 | 11 => 170 | 13 => 172 | 12 => 171 | 23 => 193 | 24 => 194 | 14 => 184 | 15 => 185 | 16 => 186 | 17 => 187 | 18 => 188 | 19 => 189 | 20 => 190 | 21 => 191 | 22 => 192 | 25 => 206 | 26 => 207 | 27 => 208 | 28 => 209 | 29 => 210 | 30 => 211 | 31 => 220 | n => n, fun | 26 => 9 | 28 => 210 | 24 => 62 | 0 => 0 | 3 => 3 | 37 => 235 | 48 => 276 | 50 => 35 | 4 => 4 | 40 => 269 | 39 => 268 | 45 => 273 | 5 => 5 | 9 => 9 | 51 => 285 | 55 => 289 | 57 => 297 | 58 => 298 | 33 => 87 | n => n, fun | n => n⟩
theorem Tryz.sorted134 : Go.Proofs.SlLaysZ.n6 Tryz.prog Tryz.sorted134_ren := {
  mixed := by kernel_rfl
  f6 := ⟨Tryz.f134.name, by decide, Tryz.func134.trans (congrArg some (by kernel_rfl))⟩
  f8 := ⟨Tryz.f157.name, by decide, Tryz.func157.trans (congrArg some (by kernel_rfl))⟩
  f11 := ⟨Tryz.f170.name, by decide, Tryz.func170.trans (congrArg some (by kernel_rfl))⟩
  t0 := Tryz.underlying0
  a0 := Tryz.isAgg0
  z0 := Tryz.sizeOf0
  v0 := Tryz.zeroValue0
  t24 := Tryz.underlying62
  a24 := Tryz.isAgg62
  z24 := Tryz.sizeOf62
  v24 := Tryz.zeroValue62
  t26 := Tryz.underlying9
  a26 := Tryz.isAgg9
  z26 := Tryz.sizeOf9
  v26 := Tryz.zeroValue9
  t28 := Tryz.underlying210
  a28 := Tryz.isAgg210
  z28 := Tryz.sizeOf210
  v28 := Tryz.zeroValue210
  i26 := by kernel_rfl }
def Tryz.sort158_ren : Go.Shelf.Ren := ⟨fun | 6 => 158 | 8 => 172 | 9 => 171 | 19 => 193 | 20 => 194 | 21 => 184 | 22 => 185 | 23 => 186 | 24 => 187 | 25 => 188 | 26 => 189 | 27 => 190 | 28 => 191 | 29 => 192 | 36 => 206 | 31 => 207 | 32 => 208 | 37 => 209 | 38 => 210 | 39 => 211 | 41 => 220 | n => n, fun | 27 => 62 | 29 => 9 | 3 => 3 | 32 => 235 | 26 => 62 | 0 => 0 | 44 => 276 | 46 => 35 | 4 => 4 | 36 => 269 | 35 => 268 | 41 => 273 | 5 => 5 | 9 => 9 | 53 => 285 | 57 => 289 | 63 => 297 | 64 => 298 | n => n, fun | n => n⟩
theorem Tryz.sort158 : Go.Proofs.SlLaysM.n6 Tryz.prog Tryz.sort158_ren := {
  mixed := by kernel_rfl
  f6 := ⟨Tryz.f158.name, by decide, Tryz.func158.trans (congrArg some (by kernel_rfl))⟩
  f8 := Tryz.func172.trans (congrArg some (by kernel_rfl))
  f9 := ⟨Tryz.f171.name, by decide, Tryz.func171.trans (congrArg some (by kernel_rfl))⟩
  f19 := Tryz.func193.trans (congrArg some (by kernel_rfl))
  f20 := Tryz.func194.trans (congrArg some (by kernel_rfl))
  f21 := ⟨Tryz.f184.name, by decide, Tryz.func184.trans (congrArg some (by kernel_rfl))⟩
  f22 := ⟨Tryz.f185.name, by decide, Tryz.func185.trans (congrArg some (by kernel_rfl))⟩
  f23 := ⟨Tryz.f186.name, by decide, Tryz.func186.trans (congrArg some (by kernel_rfl))⟩
  f24 := ⟨Tryz.f187.name, by decide, Tryz.func187.trans (congrArg some (by kernel_rfl))⟩
  f25 := ⟨Tryz.f188.name, by decide, Tryz.func188.trans (congrArg some (by kernel_rfl))⟩
  f26 := ⟨Tryz.f189.name, by decide, Tryz.func189.trans (congrArg some (by kernel_rfl))⟩
  f27 := ⟨Tryz.f190.name, by decide, Tryz.func190.trans (congrArg some (by kernel_rfl))⟩
  f28 := ⟨Tryz.f191.name, by decide, Tryz.func191.trans (congrArg some (by kernel_rfl))⟩
  f29 := ⟨Tryz.f192.name, by decide, Tryz.func192.trans (congrArg some (by kernel_rfl))⟩
  f31 := Tryz.func207.trans (congrArg some (by kernel_rfl))
  f32 := Tryz.func208.trans (congrArg some (by kernel_rfl))
  f36 := ⟨Tryz.f206.name, by decide, Tryz.func206.trans (congrArg some (by kernel_rfl))⟩
  f37 := ⟨Tryz.f209.name, by decide, Tryz.func209.trans (congrArg some (by kernel_rfl))⟩
  f38 := ⟨Tryz.f210.name, by decide, Tryz.func210.trans (congrArg some (by kernel_rfl))⟩
  f39 := ⟨Tryz.f211.name, by decide, Tryz.func211.trans (congrArg some (by kernel_rfl))⟩
  f41 := ⟨Tryz.f220.name, by decide, Tryz.func220.trans (congrArg some (by kernel_rfl))⟩
  t0 := Tryz.underlying0
  a0 := Tryz.isAgg0
  z0 := Tryz.sizeOf0
  v0 := Tryz.zeroValue0
  t3 := Tryz.underlying3
  a3 := Tryz.isAgg3
  z3 := Tryz.sizeOf3
  v3 := Tryz.zeroValue3
  t4 := Tryz.underlying4
  a4 := Tryz.isAgg4
  z4 := Tryz.sizeOf4
  v4 := Tryz.zeroValue4
  t5 := Tryz.underlying5
  a5 := Tryz.isAgg5
  z5 := Tryz.sizeOf5
  v5 := Tryz.zeroValue5
  t9 := Tryz.underlying9
  a9 := Tryz.isAgg9
  z9 := Tryz.sizeOf9
  v9 := Tryz.zeroValue9
  t26 := Tryz.underlying62
  a26 := Tryz.isAgg62
  z26 := Tryz.sizeOf62
  v26 := Tryz.zeroValue62
  t27 := Tryz.underlying62
  a27 := Tryz.isAgg62
  z27 := Tryz.sizeOf62
  v27 := Tryz.zeroValue62
  t29 := Tryz.underlying9
  a29 := Tryz.isAgg9
  z29 := Tryz.sizeOf9
  v29 := Tryz.zeroValue9
  t32 := Tryz.underlying235
  a32 := Tryz.isAgg235
  z32 := Tryz.sizeOf235
  v32 := Tryz.zeroValue235
  t35 := Tryz.underlying268
  a35 := Tryz.isAgg268
  z35 := Tryz.sizeOf268
  v35 := Tryz.zeroValue268
  t36 := Tryz.underlying269
  a36 := Tryz.isAgg269
  z36 := Tryz.sizeOf269
  v36 := Tryz.zeroValue269
  t41 := Tryz.underlying273
  a41 := Tryz.isAgg273
  z41 := Tryz.sizeOf273
  v41 := Tryz.zeroValue273
  t44 := Tryz.underlying276
  a44 := Tryz.isAgg276
  z44 := Tryz.sizeOf276
  v44 := Tryz.zeroValue276
  t46 := Tryz.underlying35
  a46 := Tryz.isAgg35
  z46 := Tryz.sizeOf35
  v46 := Tryz.zeroValue35
  t53 := Tryz.underlying285
  a53 := Tryz.isAgg285
  z53 := Tryz.sizeOf285
  v53 := Tryz.zeroValue285
  t57 := Tryz.underlying289
  a57 := Tryz.isAgg289
  z57 := Tryz.sizeOf289
  v57 := Tryz.zeroValue289
  t63 := Tryz.underlying297
  a63 := Tryz.isAgg297
  z63 := Tryz.sizeOf297
  v63 := Tryz.zeroValue297
  t64 := Tryz.underlying298
  a64 := Tryz.isAgg298
  z64 := Tryz.sizeOf298
  v64 := Tryz.zeroValue298 }
open Go.RowKit Go.Maps Go.Sort Go.Shelf


/-- slices.Sort's two contracts at this dump, at the fence that asks nothing. -/
theorem Tryz.sorts134 (m : Nat) : AnyZ.SortsIn Tryz.prog Tryz.sorted134_ren Fence.wide m :=
  ⟨fun blk off cap ss W hH hblk hsz => callsIn_wide.2 (AnyM.slices_Sort_string Tryz.sort158 blk off cap ss W hH hblk hsz),
   fun p cap W => callsIn_wide.2 (AnyM.slices_Sort_string_none Tryz.sort158 p cap W)⟩

/-- **maps.Keys[map[string]bool,string,bool], at whatever map, the nil one too:** a function value over ONE NEW BLOCK, which holds the map. -/
theorem Tryz.maps_Keys_135 (mb : Option Nat) (W : World) : CallsIn Fence.wide 5 Tryz.prog 135 #[.map mb] W fun e w' => e = .returned (.func (.func 159) #[] #[.pointer (some ⟨W.heap.size, 0, none⟩)]) ∧ w' = W.alloc (.cells #[.map mb] 71) :=
  AnyZ.keys_in Tryz.keys135 Fence.wide 5 trivial rfl mb W

set_option maxHeartbeats 1000000 in
/-- **slices.Sorted[string] AT WHAT maps.Keys[map[string]bool,string,bool] HANDED BACK FOR A MAP THAT IS NOT nil** ('w': the world AHEAD of maps.Keys' call): A NEW SLICE THAT HOLDS THE MAP's KEYS, SORTED; nil just where it has none; nothing that lay before has turned. -/
theorem Tryz.slices_Sorted_keys_134_135 {H : Type} (b nn : Nat) (D0 : DataW H) (R : Value → Option (DataW H × List MemPlace)) (w : World) (hown : w.ownsMap Tryz.prog 9 R b nn D0) (hmax : Maps.size D0 ≤ maxLen) (hbytes : Maps.size D0 * 16 ≤ 140737488355328) :
    CallsIn Fence.wide 5 Tryz.prog 134 #[.func (.func 159) #[] #[.pointer (some ⟨w.heap.size, 0, none⟩)]] (w.alloc (.cells #[.map (some b)] 71)) fun e w' => ∃ (v : Value) (ss : List (List UInt8)), e = .returned v ∧ ss.Perm (strKeys D0) ∧
      w'.ownsRow (w.alloc (.cells #[.map (some b)] 71)).heap.size 9 1 v ss.length ((ss.mergeSort (fun x y => decide (x ≤ y))).map encStr) ∧ (v = .slice none 0 0 ↔ ss = []) ∧ Below (w.alloc (.cells #[.map (some b)] 71)).heap.size (w.alloc (.cells #[.map (some b)] 71)) w' := by
  have hbl := hown.lt
  have hseq : SeqGives Fence.wide 2 Tryz.prog 159 #[.pointer (some ⟨w.heap.size, 0, none⟩)] encStr (fun ss => ss.Perm (strKeys D0)) (Maps.size D0) (w.alloc (.cells #[.map (some b)] 71)) :=
    AnyZ.keys_gives (ρ := Tryz.keys135_ren) { Tryz.keys135 with } Fence.wide _ trivial rfl (by omega) w.heap.size b nn D0 _ (by simp) (by simp) (by
      obtain ⟨es, clock, hb, Ft, hs, hD⟩ := hown
      exact ⟨es, clock, (Below.heap_alloc _ _ b hbl).trans hb, Ft, hs, hD⟩)
  exact AnyZ.sorted_in Tryz.sorted134 Fence.wide 5 trivial trivial trivial trivial rfl (by omega) (Tryz.sorts134 _) (enters_of Tryz.func158 (by kernel_rfl) rfl) 159 #[.pointer (some ⟨w.heap.size, 0, none⟩)] trivial (enters_of Tryz.func159 (by kernel_rfl) rfl) _ _ hmax hbytes _ hseq

set_option maxHeartbeats 1000000 in
/-- **.. AND FOR THE nil MAP: nil.** -/
theorem Tryz.slices_Sorted_keys_nil_134_135 (w : World) :
    CallsIn Fence.wide 5 Tryz.prog 134 #[.func (.func 159) #[] #[.pointer (some ⟨w.heap.size, 0, none⟩)]] (w.alloc (.cells #[.map none] 71)) fun e w' => ∃ (v : Value) (ss : List (List UInt8)), e = .returned v ∧ ss = [] ∧
      w'.ownsRow (w.alloc (.cells #[.map none] 71)).heap.size 9 1 v ss.length ((ss.mergeSort (fun x y => decide (x ≤ y))).map encStr) ∧ (v = .slice none 0 0 ↔ ss = []) ∧ Below (w.alloc (.cells #[.map none] 71)).heap.size (w.alloc (.cells #[.map none] 71)) w' := by
  have hseq : SeqGives Fence.wide 2 Tryz.prog 159 #[.pointer (some ⟨w.heap.size, 0, none⟩)] encStr (fun ss : List (List UInt8) => ss = []) 0 (w.alloc (.cells #[.map none] 71)) :=
    AnyZ.keys_gives_nil (ρ := Tryz.keys135_ren) { Tryz.keys135 with } Fence.wide _ trivial rfl w.heap.size _ (by simp) (by simp)
  exact AnyZ.sorted_in Tryz.sorted134 Fence.wide 5 trivial trivial trivial trivial rfl (by omega) (Tryz.sorts134 _) (enters_of Tryz.func158 (by kernel_rfl) rfl) 159 #[.pointer (some ⟨w.heap.size, 0, none⟩)] trivial (enters_of Tryz.func159 (by kernel_rfl) rfl) _ 0 (Nat.zero_le _) (by omega) _ hseq




end Go.Proofs
