/- A tale's bytes; tale.numbered, tale.listing. -/
import Derived.Test.YtdcinodbgbkobaaGreatDoorTlP
import Derived.Test.YtdcinodbgbkobaaGreatDoorFdPrts
import Derived.Test.YtdcinodbgbkobaaGreatDoorGa
namespace Go.Proofs.YtdcinodbgbkobaaGreatDoor
open Go.Shelf Go.RowKit Go.Maps
set_option linter.unusedVariables false

/-- The byte at a place, 0 behind the end. -/
def byAt (l : List UInt8) (k : Nat) : Nat := match l[k]? with | some z => z.toNat | none => 0
theorem byAt_lt (l : List UInt8) (k : Nat) : byAt l k < 256 := by
  unfold byAt
  split
  · exact UInt8.toNat_lt _
  · omega
def byC (l : List UInt8) : List Value := l.map fun z => .int .u8 (z.toNat : Int)
/-- A slice of bytes. -/
def BysAt (w : World) (B : Nat) (A : Option Addr) (l : List UInt8) : Prop := RowIn w B 1 A l.length (byC l)
theorem BysAt.at {w : World} {B : Nat} {A : Option Addr} {l : List UInt8} (h : BysAt w B A l) {k : Nat} {z : UInt8} (hz : l[k]? = some z) : ∃ b off, A = some ⟨b, off, none⟩ ∧ b < B ∧ w.cell? ⟨b, off + k, none⟩ = some (.int .u8 (z.toNat : Int)) := by
  obtain ⟨b, off, hA, hb, hc⟩ := RowIn.at h (by have := (List.getElem?_eq_some_iff.1 hz).1; omega)
  refine ⟨b, off, hA, hb, hc k _ ?_⟩
  unfold byC
  rw [List.getElem?_map, hz]
  rfl
set_option maxHeartbeats 1000000 in
set_option maxRecDepth 100000 in
theorem tat_any (w : World) (bb B n c : Nat) (A : Option Addr) (l : List UInt8) (k : Nat) (hn : l.length = n) (hb : w.cell? ⟨bb, 0, none⟩ = some (.slice A n c)) (hl : BysAt w B A l) (hk : k ≤ 1000) :
    Calls Tryz.prog 39 #[.int .i64 k, .pointer (some ⟨bb, 0, none⟩)] w fun e w' => e = .returned (.int .i64 (byAt l k : Nat)) ∧ w = w' := by
  by_cases hlt : k < n
  · obtain ⟨z, hz⟩ : ∃ z, l[k]? = some z := ⟨l[k]'(by rw [hn]; exact hlt), List.getElem?_eq_getElem _⟩
    obtain ⟨b, off, rfl, hbB, hc⟩ := hl.at hz
    have hby : byAt l k = z.toNat := by unfold byAt; rw [hz]
    have hk8 : (k : Int) < (n : Int) := by omega
    have hk9 : (0 : Int) ≤ (k : Int) := by omega
    have hz8 : z.toNat < 256 := UInt8.toNat_lt z
    rw [hby]
    obtain ⟨q, hq⟩ : ∃ q, z.toNat = q := ⟨_, rfl⟩
    rw [hq] at hc hz8 ⊢
    clear hl hz hby hq hn
    go_enter Tryz.func39, Tryz.ntmps39
    go_wp2_with fail
    go_ret
    exact ⟨by first | rfl | (refine ret_int ?_; exact IntWalk.i64_in _ (by omega)), rfl⟩
  · have hby : byAt l k = 0 := by unfold byAt; rw [List.getElem?_eq_none (by omega)]
    have hk8 : ¬ (k : Int) < (n : Int) := by omega
    rw [hby]
    clear hl hby hn
    go_enter Tryz.func39, Tryz.ntmps39
    go_wp2_with fail
    go_ret
    exact ⟨rfl, rfl⟩

set_option maxHeartbeats 1000000 in
theorem numb_any (c : UInt8) (n : Nat) (hn : n ≤ 1000000) (w : World) (ht : TabAt w) : Calls Tryz.prog 41 #[.string ⟨#[c]⟩, .int .i64 n] w fun e w' => e = .returned (.string (tlNm c n)) ∧ Below w.heap.size w w' := by
  have HI := Lib.hid (itoa_any (n : Int) (by omega) (by omega) w ht)
  have hl : ¬ 9223372036854775807 < 1 + (Lib.itoa (n : Int)).length := by
    have := Lib.itoa_length_le (n : Int) (by omega) (by omega)
    omega
  clear ht
  go_enter Tryz.func41, Tryz.ntmps41
  go_wp2_with fail
  refine HI.out.mono ?_
  rintro e w1 ⟨rfl, hb1⟩
  have HB1 := Lib.hid hb1
  clear hb1 HI
  go_wp2_with fail
  go_ret
  exact ⟨rfl, HB1.out⟩
end Go.Proofs.YtdcinodbgbkobaaGreatDoor
