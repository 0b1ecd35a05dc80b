/- The calls that a law is given, with the slice's capacity. -/
import Derived.Test.YtanhiohalgeijaaOpenS
namespace Go.Proofs.Ytanhiohalgeijaa
open Go.ChangeShapes Go.WideShapes Go.Deep
set_option linter.unusedVariables false

theorem acts_cap {H : Type} {enc : TypeId × Value → H} {w : World} {base : Nat} {spare : Nat → Bool} {held : Bool} {fuel : Nat} {a : Option Addr} {len cap : Nat} {x : DataW H × List MemPlace}
    (h : DataW.trod enc Try.prog w base spare held fuel 22 [.slice a len cap] = some x) : len ≤ cap ∧ cap ≤ maxLen ∧ (a = none → cap = 0) := by
  rcases open_slice Try.underlying22 h with ⟨hcs, _⟩ | ⟨ad, n, c, m, n', D, Pl, hcs, _, hl, hm, _⟩
  · simp at hcs
    obtain ⟨rfl, rfl, rfl⟩ := hcs
    exact ⟨Nat.le_refl _, Nat.zero_le _, fun _ => rfl⟩
  · simp at hcs
    obtain ⟨rfl, rfl, rfl⟩ := hcs
    exact ⟨hl, hm, fun h => by cases h⟩

end Go.Proofs.Ytanhiohalgeijaa
