/- Arguments of a top law, opened: slices of bytes. -/
import Derived.Test.YtnpfaajhgghpgaaGreatDoorTlQ
import Derived.Test.YtnpfaajhgghpgaaGreatDoorRows
import Derived.Deep.Slices
import Derived.Deep.Fields
import Derived.ChangeSame
import Derived.ProofKit
import Derived.SizedLaws
namespace Go.Proofs.YtnpfaajhgghpgaaGreatDoor
open Go.ChangeShapes Go.WideShapes Go.Deep Go.RowKit
set_option linter.unusedVariables false

set_option maxHeartbeats 1000000 in
set_option maxRecDepth 100000 in
theorem bys_of {H : Type} {enc : TypeId × Value → H} {w : World} {spare : Nat → Bool} {held : Bool} {base fuel : Nat} {a : Option Addr} {len cap : Nat} {x : DataW H × List MemPlace}
    (h : DataW.trod enc Tryz.prog w base spare held fuel 22 [.slice a len cap] = some x) : ∃ l : List UInt8, l.length = len ∧ BysAt w w.heap.size a l := by
  rcases open_slice (e := 5) Tryz.underlying22 h with ⟨hcs, _⟩ | ⟨ad, n, c, m, n', D, Pl, hcs, _, hl, hm, hmm, _, hi⟩
  · simp at hcs
    obtain ⟨rfl, rfl, rfl⟩ := hcs
    exact ⟨[], rfl, RowIn.nil _ _ _ _⟩
  · simp at hcs
    obtain ⟨rfl, rfl, rfl⟩ := hcs
    have hlm : len ≤ m := by rw [hmm]; split <;> omega
    have hcell : ∀ i, i < m → ∃ z : UInt8, w.cell? (ad.add i) = some (.int .u8 z.toNat) := by
      intro i hi'
      obtain ⟨cs', hc, ht'⟩ := hi i hi'
      have hC : Tryz.prog.cellsOf 5 = 1 := by kernel_rfl
      rw [hC] at hc
      obtain ⟨_, hcl, hat⟩ := World.cells?_some hc
      obtain ⟨z, hz, _, hwf⟩ := DataW.trod_int Tryz.underlying5 ht'
      subst hz
      have hw2 : (decide ((0 : Int) ≤ z) && decide (z ≤ 255)) = true := hwf
      have hb : 0 ≤ z ∧ z ≤ 255 := by simpa using hw2
      refine ⟨UInt8.ofNat z.toNat, ?_⟩
      have := hat 0 (by omega)
      rw [UInt8.toNat_ofNat_of_lt' (by show _ < 256; omega), show ((z.toNat : Nat) : Int) = z by omega]
      simpa [Addr.add] using this
    obtain ⟨l, h1, h2⟩ := Zn3 (α := UInt8) (p := fun i x => ∃ b off, ad = ⟨b, off, none⟩ ∧ b < w.heap.size ∧ w.cell? ⟨b, off + i, none⟩ = some (.int .u8 x.toNat)) len (fun i hil => by
      obtain ⟨z, hz⟩ := hcell i (by omega)
      obtain ⟨z0, hz0⟩ := hcell 0 (by omega)
      have hsp : ad.spot = none := World.cell?_spot (by simpa [Addr.add] using hz0)
      obtain ⟨b, off, spot⟩ := ad
      have hs2 : spot = none := hsp
      subst hs2
      rw [at_add] at hz
      exact ⟨z, b, off, rfl, cell_lt (a := ⟨b, _, none⟩) hz, hz⟩)
    refine ⟨l, h1, ?_⟩
    unfold BysAt byC
    refine ⟨by rw [List.length_map, Nat.mul_one], ?_⟩
    rcases Nat.eq_zero_or_pos l.length with h0 | h0
    · exact Or.inl h0
    obtain ⟨b, off, rfl, hb, _⟩ := h2 0 _ (List.getElem?_eq_getElem h0)
    refine Or.inr ⟨b, off, rfl, hb, fun j u hu => ?_⟩
    rw [List.getElem?_map] at hu
    obtain ⟨z, hz, rfl⟩ := Option.map_eq_some_iff.1 hu
    obtain ⟨b', off', e, _, hc⟩ := h2 j z hz
    injection e with e1 e2 _
    subst e1 e2
    exact hc
end Go.Proofs.YtnpfaajhgghpgaaGreatDoor
