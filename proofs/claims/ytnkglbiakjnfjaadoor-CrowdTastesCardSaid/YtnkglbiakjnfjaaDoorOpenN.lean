/- An argument that is a slice of ints, opened. -/
import Derived.Test.YtnkglbiakjnfjaaDoorOpenR
namespace Go.Proofs.YtnkglbiakjnfjaaDoor
open Go.ChangeShapes Go.WideShapes Go.Deep
set_option linter.unusedVariables false

def InArg (w : World) (A : Option Addr) (n c : Nat) (l : List Int) : Prop := l.length = n ∧ RowIn w w.heap.size 1 A n (l.map (.int .i64)) ∧ n ≤ maxLen
theorem ints_of {H : Type} {enc : TypeId × Value → H} {w : World} {spare : Nat → Bool} {held : Bool} {base fuel : Nat} {a : Option Addr} {len cap : Nat} {x : DataW H × List MemPlace}
    (h : DataW.trod enc Tryd.prog w base spare held fuel 23 [.slice a len cap] = some x) : ∃ l : List Int, InArg w a len cap l := by
  rcases open_slice (e := 3) Tryd.underlying23 h with ⟨hcs, _⟩ | ⟨ad, n, c, m, n', D, Pl, hcs, _, hl, hm, hmm, _, hi⟩
  · simp at hcs
    obtain ⟨rfl, rfl, rfl⟩ := hcs
    exact ⟨[], rfl, ⟨rfl, Or.inl rfl⟩, Nat.zero_le _⟩
  · simp at hcs
    obtain ⟨rfl, rfl, rfl⟩ := hcs
    have hlm : len ≤ m := by rw [hmm]; split <;> omega
    have hcell : ∀ i, i < m → ∃ z, w.cell? (ad.add i) = some (.int .i64 z) := by
      intro i hi'
      obtain ⟨cs', hc, ht'⟩ := hi i hi'
      have hC : Tryd.prog.cellsOf 3 = 1 := by kernel_rfl
      rw [hC] at hc
      obtain ⟨_, hcl, hat⟩ := World.cells?_some hc
      obtain ⟨z, hz, _, hwf⟩ := DataW.trod_int Tryd.underlying3 ht'
      subst hz
      refine ⟨z, ?_⟩
      have := hat 0 (by omega)
      simpa [Addr.add] using this
    obtain ⟨l, h1, h2⟩ := list_of (α := Int) (p := fun i x => w.cell? (ad.add i) = some (.int .i64 x)) len (fun i hil => hcell i (by omega))
    refine ⟨l, h1, ⟨by simp [h1], ?_⟩, Nat.le_trans hl hm⟩
    rcases Nat.eq_zero_or_pos len with h0 | h0
    · exact Or.inl h0
    · right
      obtain ⟨z0, hz0⟩ := hcell 0 (by omega)
      have hsp : ad.spot = none := World.cell?_spot (by simpa [Addr.add] using hz0)
      obtain ⟨b, off, spot⟩ := ad
      have hs2 : spot = none := hsp
      subst hs2
      rw [add_none] at hz0
      refine ⟨b, off, rfl, cell_lt (a := ⟨b, _, none⟩) hz0, fun j u hu => ?_⟩
      rw [List.getElem?_map] at hu
      cases hx : l[j]? with
      | none => rw [hx] at hu; cases hu
      | some z =>
        rw [hx] at hu
        simp at hu
        have := h2 j z hx
        rw [add_none] at this
        rw [this, hu]

end Go.Proofs.YtnkglbiakjnfjaaDoor
