/- An argument that is a slice of ints, opened to cells. -/
import Derived.Test.YtanhiohalgeijaaHeard
import Derived.Test.YtanhiohalgeijaaOpenS
namespace Go.Proofs.Ytanhiohalgeijaa
open Go.ChangeShapes Go.WideShapes Go.Deep
set_option linter.unusedVariables false

theorem ints_of {H : Type} {enc : TypeId × Value → H} {w : World} {spare : Nat → Bool} {held : Bool} {base fuel : Nat} {a : Option Addr} {len cap : Nat} {x : DataW H × List MemPlace}
    (h : DataW.trod enc Try.prog w base spare held fuel 34 [.slice a len cap] = some x) : ∃ l : List Int, l.length = len ∧ len ≤ maxLen ∧ IntsAt w w.heap.size a l := by
  rcases open_slice (e := 3) Try.underlying34 h with ⟨hcs, _⟩ | ⟨ad, n, c, m, n', D, Pl, hcs, _, hl, hm, hmm, _, hi⟩
  · simp at hcs
    obtain ⟨rfl, rfl, rfl⟩ := hcs
    exact ⟨[], rfl, Nat.zero_le _, fun i x hx => by simp at hx⟩
  · simp at hcs
    obtain ⟨rfl, rfl, rfl⟩ := hcs
    have hlm : len ≤ m := by rw [hmm]; split <;> omega
    have hcell : ∀ i, i < m → ∃ z, w.cell? (ad.add i) = some (.int .i64 z) ∧ (Lit.int .i64 z).wf = true := by
      intro i hi'
      obtain ⟨cs', hc, ht'⟩ := hi i hi'
      have hC : Try.prog.cellsOf 3 = 1 := by kernel_rfl
      rw [hC] at hc
      obtain ⟨_, hcl, hat⟩ := World.cells?_some hc
      obtain ⟨z, hz, _, hwf⟩ := DataW.trod_int Try.underlying3 ht'
      subst hz
      refine ⟨z, ?_, hwf⟩
      have := hat 0 (by omega)
      simpa [Addr.add] using this
    obtain ⟨l, h1, h2⟩ := list_of (α := Int) (p := fun i x => (∃ b off, some ad = some ⟨b, off, none⟩ ∧ b < w.heap.size ∧ w.cell? ⟨b, off + i, none⟩ = some (.int .i64 x)) ∧ (Lit.int .i64 x).wf = true) len (fun i hil => by
      obtain ⟨z, hz, hwf⟩ := hcell i (by omega)
      obtain ⟨z0, hz0, _⟩ := hcell 0 (by omega)
      have hsp : ad.spot = none := World.cell?_spot (by simpa [Addr.add] using hz0)
      obtain ⟨b, off, spot⟩ := ad
      have hs2 : spot = none := hsp
      subst hs2
      rw [add_none] at hz
      exact ⟨z, ⟨b, off, rfl, cell_lt (a := ⟨b, _, none⟩) hz, hz⟩, hwf⟩)
    exact ⟨l, h1, Nat.le_trans hl hm, h2⟩

end Go.Proofs.Ytanhiohalgeijaa
