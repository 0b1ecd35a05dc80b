/- The calls that a law is given, in memory; few. -/
import Derived.Test.YtobkgkiomapabaaGreatDoorAwake
namespace Go.Proofs.YtobkgkiomapabaaGreatDoor
open Go.RowKit Go.Maps Go.Lib Go.Shelf
set_option linter.unusedVariables false

structure ActD where
  kind : Int
  name : ByteArray
  at_ : Int
  now : Int

/-- The slice at a holds the calls l, below block B. -/
def ActsAt (w : World) (B : Nat) (a : Option Addr) (l : List ActD) : Prop :=
  ∀ i x, l[i]? = some x → ∃ b off, a = some ⟨b, off, none⟩ ∧ b < B ∧ w.cell? ⟨b, off + i * 4, none⟩ = some (.int .i64 x.kind) ∧ w.cell? ⟨b, off + i * 4 + 1, none⟩ = some (.string x.name) ∧
    w.cell? ⟨b, off + i * 4 + 2, none⟩ = some (.int .i64 x.at_) ∧ w.cell? ⟨b, off + i * 4 + 3, none⟩ = some (.int .i64 x.now)

theorem ActsAt.below {w w' : World} {B : Nat} {a : Option Addr} {l : List ActD} (h : ActsAt w B a l) (hb : Below B w w') : ActsAt w' B a l := by
  intro i x hx
  obtain ⟨b, off, ha, hlt, h0, h1, h2, h3⟩ := h i x hx
  exact ⟨b, off, ha, hlt, (hb.cell (p := ⟨b, _, none⟩) hlt).trans h0, (hb.cell (p := ⟨b, _, none⟩) hlt).trans h1, (hb.cell (p := ⟨b, _, none⟩) hlt).trans h2, (hb.cell (p := ⟨b, _, none⟩) hlt).trans h3⟩

/-- It returns a bool of which p holds; the world is as it was. -/
def SomeBool (p : Bool → Prop) (w : World) (e : Ending) (w' : World) : Prop := ∃ r, e = .returned (.bool r) ∧ p r ∧ w = w'


end Go.Proofs.YtobkgkiomapabaaGreatDoor
